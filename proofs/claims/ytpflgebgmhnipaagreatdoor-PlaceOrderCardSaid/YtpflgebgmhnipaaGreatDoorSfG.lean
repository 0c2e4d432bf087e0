/- A stripe's footer written: the document's writer. -/
import Derived.Test.YtpflgebgmhnipaaGreatDoorSfF
namespace Go.Proofs.YtpflgebgmhnipaaGreatDoor
open Go Go.Ev
set_option linter.unusedVariables false
set_option linter.unusedSimpArgs false
set_option maxHeartbeats 4000000

abbrev rM (P Q : D) : List (Cel × V) := [(⟨0, 1, 0⟩, .d P), (⟨0, 1, 1⟩, .d Q)]
theorem ref22_okP (ps : List PI) (Q : D) (hn : ps.length ≤ 1000000) (K : List Kf) : ∀ (r : List PI) (i : Nat) (ok : Bool), ps.drop i = r → i ≤ ps.length →
    ∃ j : Int, go X_ingotref22_Encode (.c (.loop b_ingotref22_Encode_6) :: .b 0 :: K) ⟨[(1, .ref 0 1 0), (4, .d (.bool (ok))), (5, .d (.int .i64 ((i : Int))))], rM (.sl (ps.map plI)) Q⟩ =
      go X_ingotref22_Encode K ⟨[(1, .ref 0 1 0), (4, .d (.bool (ok && r.all inP))), (5, .d (.int .i64 (j))), (29, .d (.bool (false)))], rM (.sl (ps.map plI)) Q⟩
  | [], i, ok, hr, hi => by
    have := dropEnd hr
    have d_a : decide ((i : Int) < ps.length) = false := by simp <;> omega
    refine ⟨i, ?_⟩
    rw [go_loop, List.all_nil, Bool.and_true]
    simp (disch := first | omega | (simp only [go_sem, List.length_take, List.length_drop] <;> omega) | assumption | decide | fail) only [go_sem, X_ingotref22_Encode, d_a, List.length_map, Nat.reduceLeDiff, Nat.reduceLT, Nat.reduceAdd, Int.reduceAdd, Int.reduceSub, Int.reduceNeg, ↓reduceIte, Nat.reduceEqDiff, reduceCtorEq, Int.reduceBEq, Int.reduceBNe, Nat.reduceBEq]
  | x :: r, i, ok, hr, hi => by
    obtain ⟨h1, h2, h3⟩ := dropAt hr
    have d_a : decide ((i : Int) < ps.length) = true := by simp <;> omega
    cases ok with
    | false =>
      refine ⟨i, ?_⟩
      rw [go_loop, Bool.false_and]
      simp (disch := first | omega | (simp only [go_sem, List.length_take, List.length_drop] <;> omega) | assumption | decide | fail) only [go_sem, X_ingotref22_Encode, d_a, List.length_map, Nat.reduceLeDiff, Nat.reduceLT, Nat.reduceAdd, Int.reduceAdd, Int.reduceSub, Int.reduceNeg, ↓reduceIte, Nat.reduceEqDiff, reduceCtorEq, Int.reduceBEq, Int.reduceBNe, Nat.reduceBEq]
    | true =>
      have i1 := ref22_in_ans x.1
      have i2 := ref22_in_ans x.2.1
      have i3 := ref22_in_ans x.2.2
      obtain ⟨j, ih⟩ := ref22_okP ps Q hn K r (i + 1) (inP x) h3 h1
      rw [show (((i + 1 : Nat)) : Int) = (i : Int) + 1 by omega] at ih
      refine ⟨j, ?_⟩
      rw [List.all_cons, Bool.true_and, ← ih]
      unfold inP
      rw [go_loop]
      cases g1 : inM x.1 with
      | false =>
        rw [g1] at i1
        simp (disch := first | omega | (simp only [go_sem, List.length_take, List.length_drop] <;> omega) | assumption | decide | fail) only [go_sem, X_ingotref22_Encode, d_a, List.length_map, evIdx_sl, Int.toNat_natCast, List.getElem?_map, h2, Option.map_some, plI, len3', i1, Bool.false_and, Nat.reduceLeDiff, Nat.reduceLT, Nat.reduceAdd, Int.reduceAdd, Int.reduceSub, Int.reduceNeg, ↓reduceIte, Nat.reduceEqDiff, reduceCtorEq, Int.reduceBEq, Int.reduceBNe, Nat.reduceBEq]
      | true =>
        rw [g1] at i1
        cases g2 : inM x.2.1 with
        | false =>
          rw [g2] at i2
          simp (disch := first | omega | (simp only [go_sem, List.length_take, List.length_drop] <;> omega) | assumption | decide | fail) only [go_sem, X_ingotref22_Encode, d_a, List.length_map, evIdx_sl, Int.toNat_natCast, List.getElem?_map, h2, Option.map_some, plI, len3', i1, i2, Bool.false_and, Bool.true_and, Nat.reduceLeDiff, Nat.reduceLT, Nat.reduceAdd, Int.reduceAdd, Int.reduceSub, Int.reduceNeg, ↓reduceIte, Nat.reduceEqDiff, reduceCtorEq, Int.reduceBEq, Int.reduceBNe, Nat.reduceBEq]
        | true =>
          rw [g2] at i2
          simp (disch := first | omega | (simp only [go_sem, List.length_take, List.length_drop] <;> omega) | assumption | decide | fail) only [go_sem, X_ingotref22_Encode, d_a, List.length_map, evIdx_sl, Int.toNat_natCast, List.getElem?_map, h2, Option.map_some, plI, len3', i1, i2, i3, Bool.true_and, Nat.reduceLeDiff, Nat.reduceLT, Nat.reduceAdd, Int.reduceAdd, Int.reduceSub, Int.reduceNeg, ↓reduceIte, Nat.reduceEqDiff, reduceCtorEq, Int.reduceBEq, Int.reduceBNe, Nat.reduceBEq]
theorem ref22_okE (es : List EI) (P : D) (hn : es.length ≤ 1000000) (K : List Kf) : ∀ (r : List EI) (i : Nat) (ok : Bool), es.drop i = r → i ≤ es.length →
    ∃ j : Int, go X_ingotref22_Encode (.c (.loop b_ingotref22_Encode_11) :: .b 2 :: K) ⟨[(1, .ref 0 1 0), (4, .d (.bool (ok))), (6, .d (.int .i64 ((i : Int))))], rM P (.sl (es.map enI))⟩ =
      go X_ingotref22_Encode K ⟨[(1, .ref 0 1 0), (4, .d (.bool (ok && r.all inE))), (6, .d (.int .i64 (j))), (64, .d (.bool (false)))], rM P (.sl (es.map enI))⟩
  | [], i, ok, hr, hi => by
    have := dropEnd hr
    have d_a : decide ((i : Int) < es.length) = false := by simp <;> omega
    refine ⟨i, ?_⟩
    rw [go_loop, List.all_nil, Bool.and_true]
    simp (disch := first | omega | (simp only [go_sem, List.length_take, List.length_drop] <;> omega) | assumption | decide | fail) only [go_sem, X_ingotref22_Encode, d_a, List.length_map, Nat.reduceLeDiff, Nat.reduceLT, Nat.reduceAdd, Int.reduceAdd, Int.reduceSub, Int.reduceNeg, ↓reduceIte, Nat.reduceEqDiff, reduceCtorEq, Int.reduceBEq, Int.reduceBNe, Nat.reduceBEq]
  | x :: r, i, ok, hr, hi => by
    obtain ⟨h1, h2, h3⟩ := dropAt hr
    have d_a : decide ((i : Int) < es.length) = true := by simp <;> omega
    cases ok with
    | false =>
      refine ⟨i, ?_⟩
      rw [go_loop, Bool.false_and]
      simp (disch := first | omega | (simp only [go_sem, List.length_take, List.length_drop] <;> omega) | assumption | decide | fail) only [go_sem, X_ingotref22_Encode, d_a, List.length_map, Nat.reduceLeDiff, Nat.reduceLT, Nat.reduceAdd, Int.reduceAdd, Int.reduceSub, Int.reduceNeg, ↓reduceIte, Nat.reduceEqDiff, reduceCtorEq, Int.reduceBEq, Int.reduceBNe, Nat.reduceBEq]
    | true =>
      have i1 := ref22_in_ans x.1
      have i2 := ref22_in_ans x.2
      obtain ⟨j, ih⟩ := ref22_okE es P hn K r (i + 1) (inE x) h3 h1
      rw [show (((i + 1 : Nat)) : Int) = (i : Int) + 1 by omega] at ih
      refine ⟨j, ?_⟩
      rw [List.all_cons, Bool.true_and, ← ih]
      unfold inE
      rw [go_loop]
      cases g1 : inM x.1 with
      | false =>
        rw [g1] at i1
        simp (disch := first | omega | (simp only [go_sem, List.length_take, List.length_drop] <;> omega) | assumption | decide | fail) only [go_sem, X_ingotref22_Encode, d_a, List.length_map, evIdx_sl, Int.toNat_natCast, List.getElem?_map, h2, Option.map_some, enI, len2', i1, Bool.false_and, Nat.reduceLeDiff, Nat.reduceLT, Nat.reduceAdd, Int.reduceAdd, Int.reduceSub, Int.reduceNeg, ↓reduceIte, Nat.reduceEqDiff, reduceCtorEq, Int.reduceBEq, Int.reduceBNe, Nat.reduceBEq]
      | true =>
        rw [g1] at i1
        simp (disch := first | omega | (simp only [go_sem, List.length_take, List.length_drop] <;> omega) | assumption | decide | fail) only [go_sem, X_ingotref22_Encode, d_a, List.length_map, evIdx_sl, Int.toNat_natCast, List.getElem?_map, h2, Option.map_some, enI, len2', i1, i2, Bool.true_and, Nat.reduceLeDiff, Nat.reduceLT, Nat.reduceAdd, Int.reduceAdd, Int.reduceSub, Int.reduceNeg, ↓reduceIte, Nat.reduceEqDiff, reduceCtorEq, Int.reduceBEq, Int.reduceBNe, Nat.reduceBEq]
def bO (l : List UInt8) : V := if l.isEmpty then .d .nilS else .own false 1 (l.map byteD)
theorem bO_nil : bO [] = .d .nilS := rfl
theorem bO_cons (x : UInt8) (l : List UInt8) : bO (x :: l) = .own false 1 (byteD x :: l.map byteD) := rfl
theorem home_bO (l : List UInt8) : (bO l).home 0 = bO l := by cases l <;> rfl
theorem bO_app (a : List UInt8) (num : Nat) (v : List UInt8) : bO (a ++ bytesF num v) = .own false 1 ((a ++ bytesF num v).map byteD) := by
  have : (a ++ bytesF num v).isEmpty = false := by
    unfold bytesF
    have h : varB 10 (num * 8 + 2) ≠ [] := by unfold varB; split <;> simp
    cases h2 : varB 10 (num * 8 + 2) with
    | nil => exact absurd h2 h
    | cons x l => simp
  unfold bO
  rw [this]; rfl
theorem cv_nat {n : Int} (h : inM n = true) : IntKind.u64.wrap n = (n.toNat : Int) := by
  obtain ⟨h1, h2⟩ := in_nat h
  rw [wrap_u64 (by omega) (by omega)]; exact h1
theorem putFrom3 (a b c : Nat) : putFrom 1 [a, b, c] = uintF 1 a ++ uintF 2 b ++ uintF 3 c := by simp [putFrom]
theorem putFrom2 (a b : Nat) : putFrom 1 [a, b] = uintF 1 a ++ uintF 2 b := by simp [putFrom]
theorem putFrom1 (a : Nat) : putFrom 1 [a] = uintF 1 a := by simp [putFrom]
theorem ref22_putP (ps : List PI) (Q : D) (hn : ps.length ≤ 800) (hin : ∀ p ∈ ps, inP p = true) (K : List Kf) : ∀ (r : List PI) (i : Nat) (acc : List UInt8) (o : Option PI), ps.drop i = r → i ≤ ps.length → acc.length ≤ 80 * i →
    ∃ o', go X_ingotref22_Encode (.c (.loop b_ingotref22_Encode_20) :: .b 4 :: K) ⟨[(1, .ref 0 1 0), (7, bO acc), (8, .d (.int .i64 ((i : Int))))], (⟨0, 1, 0⟩, .d (.sl (ps.map plI))) :: (⟨0, 1, 1⟩, .d Q) :: bx3 9 o⟩ =
      go X_ingotref22_Encode K ⟨[(1, .ref 0 1 0), (7, bO (acc ++ (r.map plB).flatten)), (8, .d (.int .i64 ((ps.length : Int)))), (89, .d (.bool (false)))], (⟨0, 1, 0⟩, .d (.sl (ps.map plI))) :: (⟨0, 1, 1⟩, .d Q) :: bx3 9 o'⟩
  | [], i, acc, o, hr, hi, ha => by
    have := dropEnd hr
    have : i = ps.length := by omega
    subst this
    have d_a : decide ((ps.length : Int) < ps.length) = false := by simp <;> omega
    refine ⟨o, ?_⟩
    rw [go_loop, List.map_nil, List.flatten_nil, List.append_nil]
    simp (disch := first | omega | (simp only [go_sem, List.length_take, List.length_drop] <;> omega) | assumption | decide | fail) only [go_sem, X_ingotref22_Encode, d_a, List.length_map, home_bO, settleM_bx3, Nat.reduceLeDiff, Nat.reduceLT, Nat.reduceAdd, Int.reduceAdd, Int.reduceSub, Int.reduceNeg, ↓reduceIte, Nat.reduceEqDiff, reduceCtorEq, Int.reduceBEq, Int.reduceBNe, Nat.reduceBEq]
  | x :: r, i, acc, o, hr, hi, ha => by
    obtain ⟨h1, h2, h3⟩ := dropAt hr
    have d_a : decide ((i : Int) < ps.length) = true := by simp <;> omega
    have hx := hin x (List.mem_of_getElem? h2)
    simp only [inP, Bool.and_eq_true] at hx
    obtain ⟨⟨g1, g2⟩, g3⟩ := hx
    have w1 := cv_nat g1
    have w2 := cv_nat g2
    have w3 := cv_nat g3
    have c1 := (in_nat g1).2
    have c2 := (in_nat g2).2
    have c3 := (in_nat g3).2
    have hle := plB_len x
    obtain ⟨o', ih⟩ := ref22_putP ps Q hn hin K r (i + 1) (acc ++ plB x) (some x) h3 h1 (by rw [List.length_append]; omega)
    rw [show (((i + 1 : Nat)) : Int) = (i : Int) + 1 by omega] at ih
    refine ⟨o', ?_⟩
    rw [List.map_cons, List.flatten_cons, ← List.append_assoc, ← ih]
    clear ih
    unfold plB
    rw [bO_app, putFrom3]
    have l1 := uintF_len 1 x.1.toNat
    have l2 := uintF_len 2 x.2.1.toNat
    have l3 := uintF_len 3 x.2.2.toNat
    have p1 := ref3_PutUint_nil (num := 1) (v := x.1.toNat) (by omega) (by omega) (by omega)
    have p2 := ref3_PutUint_own (b := uintF 1 x.1.toNat) (num := 2) (v := x.2.1.toNat) (by omega) (by omega) (by omega) (by omega)
    have p3 := ref3_PutUint_own (b := uintF 1 x.1.toNat ++ uintF 2 x.2.1.toNat) (num := 3) (v := x.2.2.toNat) (by rw [List.length_append]; omega) (by omega) (by omega) (by omega)
    have hlq : (uintF 1 x.1.toNat ++ uintF 2 x.2.1.toNat ++ uintF 3 x.2.2.toNat).length ≤ 60 := by simp only [List.length_append]; omega
    rw [show ((1 : Nat) : Int) = 1 from rfl] at p1
    rw [show ((2 : Nat) : Int) = 2 from rfl] at p2
    rw [show ((3 : Nat) : Int) = 3 from rfl] at p3
    generalize uintF 1 x.1.toNat ++ uintF 2 x.2.1.toNat ++ uintF 3 x.2.2.toNat = q at *
    rw [go_loop]
    cases acc with
    | nil =>
      have p4 := ref3_PutBytes_nil (v := q) (num := 1) (by omega) (by omega) (by omega)
      rw [show ((1 : Nat) : Int) = 1 from rfl] at p4
      rw [List.nil_append]
      simp (disch := first | omega | (simp only [go_sem, List.length_take, List.length_drop] <;> omega) | assumption | decide | fail) only [go_sem, X_ingotref22_Encode, d_a, bO_nil, settleM_bx3, freeM_bx3, List.length_map, evIdx_sl, Int.toNat_natCast, List.getElem?_map, h2, Option.map_some, plI, take3', len3', w1, w2, w3, p1, p2, p3, p4, Nat.reduceLeDiff, Nat.reduceLT, Nat.reduceAdd, Int.reduceAdd, Int.reduceSub, Int.reduceNeg, ↓reduceIte, Nat.reduceEqDiff, reduceCtorEq, Int.reduceBEq, Int.reduceBNe, Nat.reduceBEq]
      rfl
    | cons y acc =>
      have p4 := ref3_PutBytes_own (b := y :: acc) (v := q) (num := 1) (by omega) (by omega) (by omega) (by omega)
      rw [show ((1 : Nat) : Int) = 1 from rfl, List.map_cons] at p4
      simp (disch := first | omega | (simp only [go_sem, List.length_take, List.length_drop] <;> omega) | assumption | decide | fail) only [go_sem, X_ingotref22_Encode, d_a, bO_cons, settleM_bx3, freeM_bx3, List.length_map, evIdx_sl, Int.toNat_natCast, List.getElem?_map, h2, Option.map_some, plI, take3', len3', w1, w2, w3, p1, p2, p3, p4, Nat.reduceLeDiff, Nat.reduceLT, Nat.reduceAdd, Int.reduceAdd, Int.reduceSub, Int.reduceNeg, ↓reduceIte, Nat.reduceEqDiff, reduceCtorEq, Int.reduceBEq, Int.reduceBNe, Nat.reduceBEq]
      rfl
theorem plainB (y : UInt8) : (byteD y).plain = true := rfl
theorem ref22_putE (es : List EI) (P : D) (hn : es.length ≤ 100) (hin : ∀ e ∈ es, inE e = true) (o : Option PI) (K : List Kf) : ∀ (r : List EI) (i : Nat) (acc : List UInt8), es.drop i = r → i ≤ es.length → acc.length ≤ 64000 + 60 * i →
    go X_ingotref22_Encode (.c (.loop b_ingotref22_Encode_28) :: .b 6 :: K) ⟨[(1, .ref 0 1 0), (7, bO acc), (10, .d (.int .i64 ((i : Int))))], (⟨0, 1, 0⟩, .d P) :: (⟨0, 1, 1⟩, .d (.sl (es.map enI))) :: bx3 9 o⟩ =
      go X_ingotref22_Encode K ⟨[(1, .ref 0 1 0), (7, bO (acc ++ (r.map enB).flatten)), (10, .d (.int .i64 ((es.length : Int)))), (115, .d (.bool (false)))], (⟨0, 1, 0⟩, .d P) :: (⟨0, 1, 1⟩, .d (.sl (es.map enI))) :: bx3 9 o⟩
  | [], i, acc, hr, hi, ha => by
    have := dropEnd hr
    have : i = es.length := by omega
    subst this
    have d_a : decide ((es.length : Int) < es.length) = false := by simp <;> omega
    rw [go_loop, List.map_nil, List.flatten_nil, List.append_nil]
    simp (disch := first | omega | (simp only [go_sem, List.length_take, List.length_drop] <;> omega) | assumption | decide | fail) only [go_sem, X_ingotref22_Encode, d_a, List.length_map, home_bO, settleM_bx3, Nat.reduceLeDiff, Nat.reduceLT, Nat.reduceAdd, Int.reduceAdd, Int.reduceSub, Int.reduceNeg, ↓reduceIte, Nat.reduceEqDiff, reduceCtorEq, Int.reduceBEq, Int.reduceBNe, Nat.reduceBEq]
  | x :: r, i, acc, hr, hi, ha => by
    obtain ⟨h1, h2, h3⟩ := dropAt hr
    have d_a : decide ((i : Int) < es.length) = true := by simp <;> omega
    have hx := hin x (List.mem_of_getElem? h2)
    simp only [inE, Bool.and_eq_true] at hx
    obtain ⟨g1, g2⟩ := hx
    have w1 := cv_nat g1
    have w2 := cv_nat g2
    have c1 := (in_nat g1).2
    have c2 := in_nat g2
    have hle := enB_len x
    have ih := ref22_putE es P hn hin o K r (i + 1) (acc ++ enB x) h3 h1 (by rw [List.length_append]; omega)
    rw [show (((i + 1 : Nat)) : Int) = (i : Int) + 1 by omega] at ih
    rw [List.map_cons, List.flatten_cons, ← List.append_assoc, ← ih]
    clear ih
    unfold enB
    rw [bO_app]
    have l1 := uintF_len 1 x.1.toNat
    have l2 := uintF_len 2 x.2.toNat
    have p1 := ref3_PutUint_nil (num := 1) (v := x.1.toNat) (by omega) (by omega) (by omega)
    have p2 := ref3_PutUint_own (b := uintF 1 x.1.toNat) (num := 2) (v := x.2.toNat) (by omega) (by omega) (by omega) (by omega)
    rw [show ((1 : Nat) : Int) = 1 from rfl] at p1
    rw [show ((2 : Nat) : Int) = 2 from rfl] at p2
    by_cases hz : x.2 > 0
    · have dz : (x.2 != 0) = true := by simp; omega
      rw [if_pos hz, putFrom2]
      have hlq : (uintF 1 x.1.toNat ++ uintF 2 x.2.toNat).length ≤ 60 := by simp only [List.length_append]; omega
      generalize uintF 1 x.1.toNat ++ uintF 2 x.2.toNat = q at *
      rw [go_loop]
      cases acc with
      | nil =>
        have p4 := ref3_PutBytes_nil (v := q) (num := 2) (by omega) (by omega) (by omega)
        rw [show ((2 : Nat) : Int) = 2 from rfl] at p4
        rw [List.nil_append]
        simp (disch := first | omega | (simp only [go_sem, List.length_take, List.length_drop] <;> omega) | assumption | decide | fail) only [go_sem, X_ingotref22_Encode, d_a, bO_nil, settleM_bx3, freeM_bx3, List.length_map, evIdx_sl, Int.toNat_natCast, List.getElem?_map, h2, Option.map_some, enI, len2', w1, w2, dz, p1, p2, p4, Nat.reduceLeDiff, Nat.reduceLT, Nat.reduceAdd, Int.reduceAdd, Int.reduceSub, Int.reduceNeg, ↓reduceIte, Nat.reduceEqDiff, reduceCtorEq, Int.reduceBEq, Int.reduceBNe, Nat.reduceBEq]
      | cons y acc =>
        have p4 := ref3_PutBytes_own (b := y :: acc) (v := q) (num := 2) (by omega) (by omega) (by omega) (by omega)
        rw [show ((2 : Nat) : Int) = 2 from rfl, List.map_cons] at p4
        simp (disch := first | omega | (simp only [go_sem, List.length_take, List.length_drop] <;> omega) | assumption | decide | fail) only [go_sem, X_ingotref22_Encode, d_a, bO_cons, plainB, Bool.true_eq_false, if_false, settleM_bx3, freeM_bx3, List.length_map, evIdx_sl, Int.toNat_natCast, List.getElem?_map, h2, Option.map_some, enI, len2', w1, w2, dz, p1, p2, p4, Nat.reduceLeDiff, Nat.reduceLT, Nat.reduceAdd, Int.reduceAdd, Int.reduceSub, Int.reduceNeg, ↓reduceIte, Nat.reduceEqDiff, reduceCtorEq, Int.reduceBEq, Int.reduceBNe, Nat.reduceBEq]
    · have dz : (x.2 != 0) = false := by simp; omega
      rw [if_neg hz, putFrom1]
      generalize uintF 1 x.1.toNat = q at *
      rw [go_loop]
      cases acc with
      | nil =>
        have p4 := ref3_PutBytes_nil (v := q) (num := 2) (by omega) (by omega) (by omega)
        rw [show ((2 : Nat) : Int) = 2 from rfl] at p4
        rw [List.nil_append]
        simp (disch := first | omega | (simp only [go_sem, List.length_take, List.length_drop] <;> omega) | assumption | decide | fail) only [go_sem, X_ingotref22_Encode, d_a, bO_nil, settleM_bx3, freeM_bx3, List.length_map, evIdx_sl, Int.toNat_natCast, List.getElem?_map, h2, Option.map_some, enI, len2', w1, dz, p1, p4, Nat.reduceLeDiff, Nat.reduceLT, Nat.reduceAdd, Int.reduceAdd, Int.reduceSub, Int.reduceNeg, ↓reduceIte, Nat.reduceEqDiff, reduceCtorEq, Int.reduceBEq, Int.reduceBNe, Nat.reduceBEq]
      | cons y acc =>
        have p4 := ref3_PutBytes_own (b := y :: acc) (v := q) (num := 2) (by omega) (by omega) (by omega) (by omega)
        rw [show ((2 : Nat) : Int) = 2 from rfl, List.map_cons] at p4
        simp (disch := first | omega | (simp only [go_sem, List.length_take, List.length_drop] <;> omega) | assumption | decide | fail) only [go_sem, X_ingotref22_Encode, d_a, bO_cons, plainB, Bool.true_eq_false, if_false, settleM_bx3, freeM_bx3, List.length_map, evIdx_sl, Int.toNat_natCast, List.getElem?_map, h2, Option.map_some, enI, len2', w1, dz, p1, p4, Nat.reduceLeDiff, Nat.reduceLT, Nat.reduceAdd, Int.reduceAdd, Int.reduceSub, Int.reduceNeg, ↓reduceIte, Nat.reduceEqDiff, reduceCtorEq, Int.reduceBEq, Int.reduceBNe, Nat.reduceBEq]
end Go.Proofs.YtpflgebgmhnipaaGreatDoor
