/- A stripe's footer read: the document's reader; both. -/
import Derived.Test.YtpflgebgmhnipaaGreatDoorSfA
namespace Go.Proofs.YtpflgebgmhnipaaGreatDoor
open Go Go.Ev
set_option linter.unusedVariables false
set_option linter.unusedSimpArgs false
set_option maxHeartbeats 4000000

theorem sfoot_Decode_ans {l : List UInt8} (hl : l.length ≤ 1000000) : evL cfg n_sfoot_Decode 0 [.d (.sl ((l).map byteD))] [] = some (fD (decM l), []) := by
  rw [o_sfoot_Decode]
  have hP := pb_Parse_ans l hl
  obtain ⟨k1, k2⟩ := parseM_ok l
  unfold decM
  generalize parseM l = pr at *
  obtain ⟨fs, e⟩ := pr
  simp only [parseD] at hP k1 k2 ⊢
  by_cases he : e ≠ 0
  · rw [if_pos he]
    have d1 : ((e : Int) != 0) = true := by simp; omega
    simp (disch := first | omega | (simp only [go_sem, List.length_take, List.length_drop] <;> omega) | assumption | decide | fail) only [go_sem, X_sfoot_Decode, c_sfoot_Decode, hP, d1, Nat.reduceLeDiff, Nat.reduceLT, Nat.reduceAdd, Int.reduceAdd, Int.reduceSub, Int.reduceNeg, ↓reduceIte, Nat.reduceEqDiff, reduceCtorEq, Int.reduceBEq, Int.reduceBNe, Nat.reduceBEq]
    rfl
  · rw [if_neg he]
    have he := Decidable.not_not.1 he
    subst he
    have h := sfoot_Decode_loop fs (by omega) (fun f hf => Nat.le_trans (k1 f hf) hl) fs 0 true [] [] .none rfl (Nat.zero_le _) (Nat.zero_le _) (Nat.zero_le _)
    unfold baseM at h
    rw [List.map_nil, List.map_nil, ownZ_nil, ownZ_nil] at h
    simp (disch := first | omega | (simp only [go_sem, List.length_take, List.length_drop] <;> omega) | assumption | decide | fail) only [go_sem, X_sfoot_Decode, c_sfoot_Decode, hP, List.length_map, Nat.reduceLeDiff, Nat.reduceLT, Nat.reduceAdd, Int.reduceAdd, Int.reduceSub, Int.reduceNeg, ↓reduceIte, Nat.reduceEqDiff, reduceCtorEq, Int.reduceBEq, Int.reduceBNe, Nat.reduceBEq]
    exact h
end Go.Proofs.YtpflgebgmhnipaaGreatDoor
