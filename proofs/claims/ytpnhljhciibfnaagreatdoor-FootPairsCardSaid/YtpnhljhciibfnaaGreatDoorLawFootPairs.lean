/- Any user's data through a footer. -/
import Derived.Test.YtpnhljhciibfnaaGreatDoorPrA
import Derived.Test.YtpnhljhciibfnaaGreatDoorK
namespace Go.Proofs.YtpnhljhciibfnaaGreatDoor
open Go Go.Ev
set_option linter.unusedVariables false
set_option linter.unusedSimpArgs false
set_option maxHeartbeats 4000000

def prB (p : Pr) : Bool := decide (p.1.length ≤ 300) && decide (p.2.length ≤ 1000)
theorem prB_ok {p : Pr} : prB p = true ↔ prOk p := by simp [prB, prOk]
theorem fp_loop (l : List Pr) (hn : l.length ≤ 100) (K : List Kf) : ∀ (r : List Pr) (i : Nat), l.drop i = r → i ≤ l.length →
    go X_ingotlaw21_FootPairs (.c (.loop b_ingotlaw21_FootPairs_11) :: .b 0 :: K) ⟨[(0, .d (.sl (l.map prD))), (3, .d (.int .i64 (0))), (4, .d (.int .i64 ((i : Int))))], []⟩ =
      if r.all prB then go X_ingotlaw21_FootPairs K ⟨[(0, .d (.sl (l.map prD))), (3, .d (.int .i64 (0))), (4, .d (.int .i64 ((l.length : Int)))), (19, .d (.bool (false)))], []⟩ else some (.d (.bool (true)), [])
  | [], i, hr, hi => by
    have := dropEnd hr
    have : i = l.length := by omega
    subst this
    have d_a : decide ((l.length : Int) < l.length) = false := by simp <;> omega
    rw [go_loop, List.all_nil, if_pos rfl]
    simp (disch := first | omega | (simp only [go_sem, List.length_take, List.length_drop] <;> omega) | assumption | decide | fail) only [go_sem, X_ingotlaw21_FootPairs, d_a, List.length_map, Nat.reduceLeDiff, Nat.reduceLT, Nat.reduceAdd, Int.reduceAdd, Int.reduceSub, Int.reduceNeg, ↓reduceIte, Nat.reduceEqDiff, reduceCtorEq, Int.reduceBEq, Int.reduceBNe, Nat.reduceBEq]
  | p :: r, i, hr, hi => by
    obtain ⟨h1, h2, h3⟩ := dropAt hr
    have d_a : decide ((i : Int) < l.length) = true := by simp <;> omega
    have ih := fp_loop l hn K r (i + 1) h3 h1
    rw [show (((i + 1 : Nat)) : Int) = (i : Int) + 1 by omega] at ih
    rw [List.all_cons, go_loop]
    obtain ⟨k, v⟩ := p
    by_cases c1 : k.length ≤ 300
    · have d_b : decide ((k.length : Int) > 300) = false := by simp <;> omega
      by_cases c2 : v.length ≤ 1000
      · have d_c : decide ((v.length : Int) > 1000) = false := by simp <;> omega
        rw [show prB (k, v) = true by simp [prB, c1, c2], Bool.true_and, ← ih]
        simp (disch := first | omega | (simp only [go_sem, List.length_take, List.length_drop] <;> omega) | assumption | decide | fail) only [go_sem, X_ingotlaw21_FootPairs, d_a, d_b, d_c, List.length_map, h2, prD, len2', List.getElem?_map, Option.map_some, Nat.reduceLeDiff, Nat.reduceLT, Nat.reduceAdd, Int.reduceAdd, Int.reduceSub, Int.reduceNeg, ↓reduceIte, Nat.reduceEqDiff, reduceCtorEq, Int.reduceBEq, Int.reduceBNe, Nat.reduceBEq]
      · have d_c : decide ((v.length : Int) > 1000) = true := by simp <;> omega
        rw [show prB (k, v) = false by simp [prB]; omega, Bool.false_and, if_neg (by simp)]
        simp (disch := first | omega | (simp only [go_sem, List.length_take, List.length_drop] <;> omega) | assumption | decide | fail) only [go_sem, X_ingotlaw21_FootPairs, d_a, d_b, d_c, List.length_map, h2, prD, len2', List.getElem?_map, Option.map_some, Nat.reduceLeDiff, Nat.reduceLT, Nat.reduceAdd, Int.reduceAdd, Int.reduceSub, Int.reduceNeg, ↓reduceIte, Nat.reduceEqDiff, reduceCtorEq, Int.reduceBEq, Int.reduceBNe, Nat.reduceBEq]
    · have d_b : decide ((k.length : Int) > 300) = true := by simp <;> omega
      rw [show prB (k, v) = false by simp [prB]; omega, Bool.false_and, if_neg (by simp)]
      simp (disch := first | omega | (simp only [go_sem, List.length_take, List.length_drop] <;> omega) | assumption | decide | fail) only [go_sem, X_ingotlaw21_FootPairs, d_a, d_b, List.length_map, h2, prD, len2', List.getElem?_map, Option.map_some, Nat.reduceLeDiff, Nat.reduceLT, Nat.reduceAdd, Int.reduceAdd, Int.reduceSub, Int.reduceNeg, ↓reduceIte, Nat.reduceEqDiff, reduceCtorEq, Int.reduceBEq, Int.reduceBNe, Nat.reduceBEq]
theorem fp_check (l : List Pr) (hn : l.length ≤ 100) (x0 x1 x2 x3 x4 x5 x6 x7 x9 x10 x11 y0 y1 y2 y3 y4 y5 : D) : ∀ (r : List Pr) (i : Nat), l.drop i = r → i ≤ l.length →
    go X_ingotlaw21_FootPairs [.c (.loop b_ingotlaw21_FootPairs_25), .b 2, .c (.seq r_ingotlaw21_FootPairs_26 .ret)] ⟨[(0, .d (.sl (l.map prD))), (3, .d (.int .i64 ((i : Int)))), (8, .ref 0 8 0), (10, .d (.int .i64 ((i : Int))))], ([(⟨0, 5, 0⟩, .d y0), (⟨0, 5, 1⟩, .d y1), (⟨0, 5, 2⟩, .d y2), (⟨0, 5, 3⟩, .d y3), (⟨0, 5, 4⟩, .d y4), (⟨0, 5, 5⟩, .d y5), (⟨0, 8, 0⟩, .d x0), (⟨0, 8, 1⟩, .d x1), (⟨0, 8, 2⟩, .d x2), (⟨0, 8, 3⟩, .d x3), (⟨0, 8, 4⟩, .d x4), (⟨0, 8, 5⟩, .d x5), (⟨0, 8, 6⟩, .d x6), (⟨0, 8, 7⟩, .d x7), (⟨0, 8, 8⟩, .d (.sl (l.map prD))), (⟨0, 8, 9⟩, .d x9), (⟨0, 8, 10⟩, .d x10), (⟨0, 8, 11⟩, .d x11)])⟩ = some (.d (.bool (true)), [])
  | [], i, hr, hi => by
    have := dropEnd hr
    have : i = l.length := by omega
    subst this
    have d_a : decide ((l.length : Int) < l.length) = false := by simp <;> omega
    have e : ((l.length : Int) == (l.length : Int)) = true := by simp
    rw [go_loop]
    simp (disch := first | omega | (simp only [go_sem, List.length_take, List.length_drop] <;> omega) | assumption | decide | fail) only [go_sem, X_ingotlaw21_FootPairs, d_a, List.length_map, e, Nat.reduceLeDiff, Nat.reduceLT, Nat.reduceAdd, Int.reduceAdd, Int.reduceSub, Int.reduceNeg, ↓reduceIte, Nat.reduceEqDiff, reduceCtorEq, Int.reduceBEq, Int.reduceBNe, Nat.reduceBEq]
  | p :: r, i, hr, hi => by
    obtain ⟨h1, h2, h3⟩ := dropAt hr
    have d_a : decide ((i : Int) < l.length) = true := by simp <;> omega
    have ih := fp_check l hn x0 x1 x2 x3 x4 x5 x6 x7 x9 x10 x11 y0 y1 y2 y3 y4 y5 r (i + 1) h3 h1
    rw [show (((i + 1 : Nat)) : Int) = (i : Int) + 1 by omega] at ih
    rw [go_loop]
    obtain ⟨k, v⟩ := p
    simp (disch := first | omega | (simp only [go_sem, List.length_take, List.length_drop] <;> omega) | assumption | decide | fail) only [go_sem, X_ingotlaw21_FootPairs, d_a, List.length_map, h2, prD, len2', List.getElem?_map, Option.map_some, beq_self_eq_true, Bool.not_true, Nat.reduceLeDiff, Nat.reduceLT, Nat.reduceAdd, Int.reduceAdd, Int.reduceSub, Int.reduceNeg, ↓reduceIte, Nat.reduceEqDiff, reduceCtorEq, Int.reduceBEq, Int.reduceBNe, Nat.reduceBEq]
    exact ih
theorem rowFootPairs (l : List Pr) (_ : l.length ≤ maxLen) : evL cfg n_ingotlaw21_FootPairs 0 [.d (.sl (l.map prD))] [] = some (.d (.bool (true)), []) := by
  rw [o_ingotlaw21_FootPairs]
  by_cases hn : l.length > 40
  · have d_c : decide ((l.length : Int) > 40) = true := by simp <;> omega
    simp (disch := first | omega | (simp only [go_sem, List.length_take, List.length_drop] <;> omega) | assumption | decide | fail) only [go_sem, X_ingotlaw21_FootPairs, c_ingotlaw21_FootPairs, known_ok, List.length_map, d_c, Nat.reduceLeDiff, Nat.reduceLT, Nat.reduceAdd, Int.reduceAdd, Int.reduceSub, Int.reduceNeg, ↓reduceIte, Nat.reduceEqDiff, reduceCtorEq, Int.reduceBEq, Int.reduceBNe, Nat.reduceBEq]
  have d_c : decide ((l.length : Int) > 40) = false := by simp <;> omega
  have l1 := fun K => fp_loop l (by omega) K l 0 rfl (Nat.zero_le _)
  simp (disch := first | omega | (simp only [go_sem, List.length_take, List.length_drop] <;> omega) | assumption | decide | fail) only [go_sem, X_ingotlaw21_FootPairs, c_ingotlaw21_FootPairs, known_ok, List.length_map, d_c, Nat.reduceLeDiff, Nat.reduceLT, Nat.reduceAdd, Int.reduceAdd, Int.reduceSub, Int.reduceNeg, ↓reduceIte, Nat.reduceEqDiff, reduceCtorEq, Int.reduceBEq, Int.reduceBNe, Nat.reduceBEq]
  refine (l1 _).trans ?_
  clear l1
  cases ha : l.all prB with
  | false => rfl
  | true =>
    rw [if_pos rfl]
    have ok : ∀ p ∈ l, prOk p := fun p hp => prB_ok.1 (List.all_eq_true.1 ha p hp)
    by_cases hm : l.length > 32
    · have d_d : decide ((l.length : Int) > 32) = true := by simp <;> omega
      have g := enc_many l (by omega) hm
      unfold fD0 at g
      simp (disch := first | omega | (simp only [go_sem, List.length_take, List.length_drop] <;> omega) | assumption | decide | fail) only [go_sem, X_ingotlaw21_FootPairs, g, d_d, List.length_map, len6, len15, Nat.reduceLeDiff, Nat.reduceLT, Nat.reduceAdd, Int.reduceAdd, Int.reduceSub, Int.reduceNeg, ↓reduceIte, Nat.reduceEqDiff, reduceCtorEq, Int.reduceBEq, Int.reduceBNe, Nat.reduceBEq]
    · have d_d : decide ((l.length : Int) > 32) = false := by simp <;> omega
      have g := enc_few l (by omega) ok
      obtain ⟨fs, fok, u2, u6, u8⟩ := pr_ok l (by omega) ok
      have g2 := foot_Decode_ans fok [statD0] (known_one _ rfl)
      unfold footD at g2
      rw [u2, u6, u8, show (prParts l).c.map pairD = l.map prD by
        unfold prParts; rw [List.map_map]; exact List.map_congr_left fun r hr => prF_d (ok r hr), show (prParts l).a.map strD = [] from rfl] at g2
      generalize putB (prsP l) = q at *
      unfold fD0 at g
      have e2 : ((l.length : Int) != (l.length : Int)) = false := by simp
      simp (disch := first | omega | (simp only [go_sem, List.length_take, List.length_drop] <;> omega) | assumption | decide | fail) only [go_sem, X_ingotlaw21_FootPairs, g, g2, d_d, List.length_map, len6, len12, len15, e2, Nat.reduceLeDiff, Nat.reduceLT, Nat.reduceAdd, Int.reduceAdd, Int.reduceSub, Int.reduceNeg, ↓reduceIte, Nat.reduceEqDiff, reduceCtorEq, Int.reduceBEq, Int.reduceBNe, Nat.reduceBEq]
      exact fp_check l (by omega) _ _ _ _ _ _ _ _ _ _ _ _ _ _ _ _ _ l 0 rfl (Nat.zero_le _)
end Go.Proofs.YtpnhljhciibfnaaGreatDoor
