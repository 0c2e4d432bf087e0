/- Any bytes as a stripe's footer. -/
import Derived.Test.YtpflgebgmhnipaaGreatDoorSfB
import Derived.Test.YtpflgebgmhnipaaGreatDoorSfC
import Derived.Test.YtpflgebgmhnipaaGreatDoorK
namespace Go.Proofs.YtpflgebgmhnipaaGreatDoor
open Go Go.Ev
set_option linter.unusedVariables false
set_option linter.unusedSimpArgs false
set_option maxHeartbeats 4000000

theorem decN_len : ∀ (r : List Fld) (ok : Bool) (ps : List Pl) (es : List (Nat × Nat)), (decN r ok ps es).1.length ≤ 800 ∧ (decN r ok ps es).2.1.length ≤ 100
  | [], ok, ps, es => by
    unfold decN
    split
    · simp
    · rename_i h
      rw [not_or, not_or] at h
      simp only
      omega
  | f :: r, ok, ps, es => by
    rw [decN]
    split
    · exact decN_len r ok ps es
    · split
      · simp
      · split
        · exact decN_len r _ _ _
        · exact decN_len r _ _ _
theorem decM_len (l : List UInt8) : (decM l).1.length ≤ 800 ∧ (decM l).2.1.length ≤ 100 := by
  unfold decM
  split
  · simp
  · exact decN_len _ _ _ _
def toP (p : Pl) : Int × Int × Int := (p.1, p.2.1, p.2.2)
def toE (p : Nat × Nat) : Int × Int := (p.1, p.2)
theorem fD_eq (r : Foot) : fD r = .d (.tup [fI (r.1.map toP) (r.2.1.map toE), .int .i64 (r.2.2 : Int)]) := by
  unfold fD footD fI
  rw [List.map_map, List.map_map]
  rfl
theorem rowPlaceBytes (b : List UInt8) (hb : b.length ≤ maxLen) : evL cfg n_ingotlaw22_PlaceBytes 0 [.d (.sl ((b).map byteD))] [] = some (.d (.bool (true)), []) := by
  rw [o_ingotlaw22_PlaceBytes]
  by_cases h : b.length > 2000
  · have d_a : decide ((b.length : Int) > 2000) = true := by simp <;> omega
    simp (disch := first | omega | (simp only [go_sem, List.length_take, List.length_drop] <;> omega) | assumption | decide | fail) only [go_sem, X_ingotlaw22_PlaceBytes, c_ingotlaw22_PlaceBytes, known_ok, d_a, Nat.reduceLeDiff, Nat.reduceLT, Nat.reduceAdd, Int.reduceAdd, Int.reduceSub, Int.reduceNeg, ↓reduceIte, Nat.reduceEqDiff, reduceCtorEq, Int.reduceBEq, Int.reduceBNe, Nat.reduceBEq]
  · have d_a : decide ((b.length : Int) > 2000) = false := by simp <;> omega
    have h1 := sfoot_Decode_ans (l := b) (by omega)
    have h2 := ref22_Decode_ans (l := b) (by omega)
    have hl := decM_len b
    rw [fD_eq] at h1 h2
    generalize decM b = r at *
    obtain ⟨ps, es, e⟩ := r
    simp only at h1 h2 hl
    have g1 := Of_ans (ps.map toP) (es.map toE) (by simp; omega) (by simp; omega)
    have g2 := same_ans (ps.map toP) (es.map toE) (by simp; omega) (by simp; omega)
    unfold fI at g1 g2 h1 h2
    simp (disch := first | omega | (simp only [go_sem, List.length_take, List.length_drop] <;> omega) | assumption | decide | fail) only [go_sem, X_ingotlaw22_PlaceBytes, c_ingotlaw22_PlaceBytes, known_ok, d_a, h1, h2, g1, g2, beqI, Nat.reduceLeDiff, Nat.reduceLT, Nat.reduceAdd, Int.reduceAdd, Int.reduceSub, Int.reduceNeg, ↓reduceIte, Nat.reduceEqDiff, reduceCtorEq, Int.reduceBEq, Int.reduceBNe, Nat.reduceBEq]
end Go.Proofs.YtpflgebgmhnipaaGreatDoor
