/- Any places and encodings as bytes, and back. -/
import Derived.Test.YtpflgebgmhnipaaGreatDoorSfI
import Derived.Test.YtpflgebgmhnipaaGreatDoorLawPlaceBytes
namespace Go.Proofs.YtpflgebgmhnipaaGreatDoor
open Go Go.Ev
set_option linter.unusedVariables false
set_option linter.unusedSimpArgs false
set_option maxHeartbeats 4000000

theorem utc_len : (bytesF 3 utc).length ≤ 23 := Nat.le_trans (bytesF_le 3 utc) (by decide)
theorem bneS (l : List UInt8) : (l != l) = false := bne_self_eq_false l
theorem lawPlaceBack (ps : List PI) (es : List EI) : evL cfg n_ingotlaw22_PlaceBack 0 [.d (fI ps es)] [] = some (.d (.bool (true)), []) := by
  rw [o_ingotlaw22_PlaceBack]
  by_cases h1 : ps.length > 820
  · have d_a : decide ((ps.length : Int) > 820) = true := by simp <;> omega
    unfold fI
    simp (disch := first | omega | (simp only [go_sem, List.length_take, List.length_drop] <;> omega) | assumption | decide | fail) only [go_sem, X_ingotlaw22_PlaceBack, c_ingotlaw22_PlaceBack, known_ok, List.length_map, d_a, Nat.reduceLeDiff, Nat.reduceLT, Nat.reduceAdd, Int.reduceAdd, Int.reduceSub, Int.reduceNeg, ↓reduceIte, Nat.reduceEqDiff, reduceCtorEq, Int.reduceBEq, Int.reduceBNe, Nat.reduceBEq]
  · have d_a : decide ((ps.length : Int) > 820) = false := by simp <;> omega
    by_cases h2 : es.length > 120
    · have d_b : decide ((es.length : Int) > 120) = true := by simp <;> omega
      unfold fI
      simp (disch := first | omega | (simp only [go_sem, List.length_take, List.length_drop] <;> omega) | assumption | decide | fail) only [go_sem, X_ingotlaw22_PlaceBack, c_ingotlaw22_PlaceBack, known_ok, List.length_map, d_a, d_b, Nat.reduceLeDiff, Nat.reduceLT, Nat.reduceAdd, Int.reduceAdd, Int.reduceSub, Int.reduceNeg, ↓reduceIte, Nat.reduceEqDiff, reduceCtorEq, Int.reduceBEq, Int.reduceBNe, Nat.reduceBEq]
    · have d_b : decide ((es.length : Int) > 120) = false := by simp <;> omega
      have g1 := sfoot_Encode_ans ps es (by omega) (by omega)
      have g2 := ref22_Encode_ans ps es (by omega) (by omega)
      have g3 := Of_ans ps es (by omega) (by omega)
      have g4 := same_ans ps es (by omega) (by omega)
      rw [enc_eq] at g1
      unfold encD at g1 g2
      cases hok : okE ps es with
      | false =>
        rw [hok] at g1 g2
        simp only [if_true] at g1 g2
        unfold fI at *
        simp (disch := first | omega | (simp only [go_sem, List.length_take, List.length_drop] <;> omega) | assumption | decide | fail) only [go_sem, X_ingotlaw22_PlaceBack, c_ingotlaw22_PlaceBack, known_ok, List.length_map, d_a, d_b, g1, g2, g3, bneS, Nat.reduceLeDiff, Nat.reduceLT, Nat.reduceAdd, Int.reduceAdd, Int.reduceSub, Int.reduceNeg, ↓reduceIte, Nat.reduceEqDiff, reduceCtorEq, Int.reduceBEq, Int.reduceBNe, Nat.reduceBEq]
        first | done | with_reducible rfl | (simp only [Option.some.injEq, Prod.mk.injEq, V.d.injEq, D.int.injEq, D.tup.injEq, D.bool.injEq, List.cons.injEq, and_true, true_and]; omega)
      | true =>
        rw [hok] at g1 g2
        have g5 := dec_enc ps es hok
        simp only [Bool.true_eq_false, if_false] at g1 g2
        have hle := flatE_len ps es hok
        have g6 := sfoot_Decode_ans (l := flatE ps es ++ bytesF 3 utc) (by have := utc_len; rw [List.length_append]; omega)
        obtain ⟨_, _, p3, p4⟩ := okE_parts hok
        rw [g5, fD_nat ps es p3 p4] at g6
        generalize flatE ps es ++ bytesF 3 utc = q at *
        by_cases hb : q.length > 65536
        · rw [if_pos hb] at g1 g2
          unfold fI at *
          simp (disch := first | omega | (simp only [go_sem, List.length_take, List.length_drop] <;> omega) | assumption | decide | fail) only [go_sem, X_ingotlaw22_PlaceBack, c_ingotlaw22_PlaceBack, known_ok, List.length_map, d_a, d_b, g1, g2, g3, bneS, Nat.reduceLeDiff, Nat.reduceLT, Nat.reduceAdd, Int.reduceAdd, Int.reduceSub, Int.reduceNeg, ↓reduceIte, Nat.reduceEqDiff, reduceCtorEq, Int.reduceBEq, Int.reduceBNe, Nat.reduceBEq]
          first | done | with_reducible rfl | (simp only [Option.some.injEq, Prod.mk.injEq, V.d.injEq, D.int.injEq, D.tup.injEq, D.bool.injEq, List.cons.injEq, and_true, true_and]; omega)
        · rw [if_neg hb] at g1 g2
          unfold fI at *
          simp (disch := first | omega | (simp only [go_sem, List.length_take, List.length_drop] <;> omega) | assumption | decide | fail) only [go_sem, X_ingotlaw22_PlaceBack, c_ingotlaw22_PlaceBack, known_ok, List.length_map, d_a, d_b, g1, g2, g3, g4, g6, bneS, beqI, Nat.reduceLeDiff, Nat.reduceLT, Nat.reduceAdd, Int.reduceAdd, Int.reduceSub, Int.reduceNeg, ↓reduceIte, Nat.reduceEqDiff, reduceCtorEq, Int.reduceBEq, Int.reduceBNe, Nat.reduceBEq]
theorem rowPlaceBack (a : List PI × List EI) (_ : a.1.length ≤ maxLen ∧ a.2.length ≤ maxLen) : evL cfg n_ingotlaw22_PlaceBack 0 [.d (fI a.1 a.2)] [] = some (.d (.bool (true)), []) := lawPlaceBack a.1 a.2
end Go.Proofs.YtpflgebgmhnipaaGreatDoor
