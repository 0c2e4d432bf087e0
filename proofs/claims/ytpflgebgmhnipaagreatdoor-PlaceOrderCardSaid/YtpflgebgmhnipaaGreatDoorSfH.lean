/- A stripe's footer written: both writers. -/
import Derived.Test.YtpflgebgmhnipaaGreatDoorSfG
namespace Go.Proofs.YtpflgebgmhnipaaGreatDoor
open Go Go.Ev
set_option linter.unusedVariables false
set_option linter.unusedSimpArgs false
set_option maxHeartbeats 4000000

def okE (ps : List PI) (es : List EI) : Bool := decide (ps.length ≤ 800) && decide (es.length ≤ 100) && ps.all inP && es.all inE
def flatE (ps : List PI) (es : List EI) : List UInt8 := (ps.map plB).flatten ++ (es.map enB).flatten
theorem s1_all : ∀ (r : List PI) (ok : Bool) (acc : List UInt8), (s1 ok acc r).1 = (ok && r.all inP) ∧ ((ok && r.all inP) = true → (s1 ok acc r).2 = acc ++ (r.map plB).flatten)
  | [], ok, acc => by simp [s1]
  | p :: r, ok, acc => by
    obtain ⟨g1, g2⟩ := s1_all r (ok && inP p) (if (ok && inP p) = true then acc ++ plB p else acc)
    rw [s1, List.all_cons, ← Bool.and_assoc]
    refine ⟨g1, fun h => ?_⟩
    rw [g2 h]
    rw [Bool.and_eq_true] at h
    rw [if_pos h.1, List.map_cons, List.flatten_cons, List.append_assoc]
theorem s2_all : ∀ (r : List EI) (ok : Bool) (acc : List UInt8), (s2 ok acc r).1 = (ok && r.all inE) ∧ ((ok && r.all inE) = true → (s2 ok acc r).2 = acc ++ (r.map enB).flatten)
  | [], ok, acc => by simp [s2]
  | p :: r, ok, acc => by
    rw [s2, List.all_cons, ← Bool.and_assoc]
    cases h : (ok && inE p) with
    | false => simp
    | true =>
      obtain ⟨g1, g2⟩ := s2_all r true (acc ++ enB p)
      simp only [if_true]
      refine ⟨g1, fun h => ?_⟩
      rw [g2 h, List.map_cons, List.flatten_cons, List.append_assoc]
theorem enc_eq (ps : List PI) (es : List EI) : encD (encM ps es) = encD (okE ps es, flatE ps es) := by
  unfold encM okE flatE
  simp only
  generalize (decide (ps.length ≤ 800) && decide (es.length ≤ 100)) = ok0
  obtain ⟨a1, a2⟩ := s1_all ps ok0 []
  obtain ⟨b1, b2⟩ := s2_all es (s1 ok0 [] ps).1 (s1 ok0 [] ps).2
  rw [a1] at b1 b2
  unfold encD
  rw [a1, b1]
  simp only
  cases h : (ok0 && ps.all inP && es.all inE) with
  | false => rfl
  | true =>
    have h' := h
    rw [Bool.and_eq_true] at h'
    rw [b2 h, a2 h'.1, List.nil_append]
abbrev rK : List Kf := [.c (.seq (.seq r_ingotref22_Encode_7 (.block 2 (.loop b_ingotref22_Encode_11))) (.seq r_ingotref22_Encode_12 (.cond (.t 84) (.seq r_ingotref22_Encode_13 .ret) (.seq r_ingotref22_Encode_14 (.seq (.seq r_ingotref22_Encode_15 (.block 4 (.loop b_ingotref22_Encode_20))) (.seq (.seq r_ingotref22_Encode_21 (.block 6 (.loop b_ingotref22_Encode_28))) (.seq r_ingotref22_Encode_29 (.seq r_ingotref22_Encode_30 (.cond (.t 151) (.seq r_ingotref22_Encode_31 .ret) (.seq r_ingotref22_Encode_32 .ret))))))))))]
theorem flat_len {α : Type} (f : α → List UInt8) (n : Nat) (hf : ∀ x, (f x).length ≤ n) : ∀ l : List α, (l.map f).flatten.length ≤ n * l.length
  | [] => by simp
  | x :: l => by
    rw [List.map_cons, List.flatten_cons, List.length_append, List.length_cons, Nat.mul_add, Nat.mul_one]
    have := hf x
    have := flat_len f n hf l
    omega
theorem ref22_tail2 (P Q : D) (o : Option PI) (acc : List UInt8) (n : Int) (ha : acc.length ≤ 100000) :
    go X_ingotref22_Encode [.c (.seq r_ingotref22_Encode_29 (.seq r_ingotref22_Encode_30 (.cond (.t 151) (.seq r_ingotref22_Encode_31 .ret) (.seq r_ingotref22_Encode_32 .ret))))]
      ⟨[(1, .ref 0 1 0), (7, bO acc), (10, .d (.int .i64 (n))), (115, .d (.bool (false)))], (⟨0, 1, 0⟩, .d P) :: (⟨0, 1, 1⟩, .d Q) :: bx3 9 o⟩ = some (encD (true, acc), []) := by
  have hl : (acc ++ bytesF 3 utc).length ≤ 200000 := by
    have := bytesF_le 3 utc
    simp only [List.length_append]
    simp only [utc, List.length_cons, List.length_nil] at this ⊢
    omega
  have hp0 : evL cfg n_ingotref3_PutBytes 0 [.d .nilS, .d (.int .i64 (3)), .d (.sl [.int .u8 85, .int .u8 84, .int .u8 67])] [] = some (.own false 1 ((bytesF 3 utc).map byteD), []) := ref3_PutBytes_nil (v := utc) (num := 3) (by omega) (by omega) (by simp [utc])
  have hp1 : evL cfg n_ingotref3_PutBytes 0 [.own false 1 (acc.map byteD), .d (.int .i64 (3)), .d (.sl [.int .u8 85, .int .u8 84, .int .u8 67])] [] = some (.own false 1 ((acc ++ bytesF 3 utc).map byteD), []) := ref3_PutBytes_own (b := acc) (v := utc) (num := 3) (by omega) (by omega) (by omega) (by simp [utc])
  unfold encD
  simp only
  rw [if_neg (by simp)]
  have hlen : (acc ++ bytesF 3 utc).length = acc.length + (bytesF 3 utc).length := List.length_append ..
  by_cases hb : (acc ++ bytesF 3 utc).length > 65536
  · rw [if_pos hb]
    have d_a : decide ((((acc ++ bytesF 3 utc).length : Nat) : Int) > 65536) = true := by simp <;> omega
    cases acc with
    | nil =>
      rw [List.nil_append] at hb d_a
      generalize bytesF 3 utc = q at *
      simp (disch := first | omega | (simp only [go_sem, List.length_take, List.length_drop] <;> omega) | assumption | decide | fail) only [go_sem, X_ingotref22_Encode, bO_nil, settleM_bx3, leaveM_bx3, hp0, List.length_map, d_a, Nat.reduceLeDiff, Nat.reduceLT, Nat.reduceAdd, Int.reduceAdd, Int.reduceSub, Int.reduceNeg, ↓reduceIte, Nat.reduceEqDiff, reduceCtorEq, Int.reduceBEq, Int.reduceBNe, Nat.reduceBEq]
    | cons y acc =>
      rw [List.map_cons] at hp1
      generalize (y :: acc) ++ bytesF 3 utc = q at *
      simp (disch := first | omega | (simp only [go_sem, List.length_take, List.length_drop] <;> omega) | assumption | decide | fail) only [go_sem, X_ingotref22_Encode, bO_cons, settleM_bx3, leaveM_bx3, hp1, List.length_map, d_a, Nat.reduceLeDiff, Nat.reduceLT, Nat.reduceAdd, Int.reduceAdd, Int.reduceSub, Int.reduceNeg, ↓reduceIte, Nat.reduceEqDiff, reduceCtorEq, Int.reduceBEq, Int.reduceBNe, Nat.reduceBEq]
  · rw [if_neg hb]
    have d_a : decide ((((acc ++ bytesF 3 utc).length : Nat) : Int) > 65536) = false := by simp <;> omega
    cases acc with
    | nil =>
      rw [List.nil_append] at hb d_a hl ⊢
      generalize bytesF 3 utc = q at *
      simp (disch := first | omega | (simp only [go_sem, List.length_take, List.length_drop] <;> omega) | assumption | decide | fail) only [go_sem, X_ingotref22_Encode, bO_nil, settleM_bx3, leaveM_bx3, hp0, List.length_map, d_a, Nat.reduceLeDiff, Nat.reduceLT, Nat.reduceAdd, Int.reduceAdd, Int.reduceSub, Int.reduceNeg, ↓reduceIte, Nat.reduceEqDiff, reduceCtorEq, Int.reduceBEq, Int.reduceBNe, Nat.reduceBEq]
    | cons y acc =>
      rw [List.map_cons] at hp1
      generalize (y :: acc) ++ bytesF 3 utc = q at *
      simp (disch := first | omega | (simp only [go_sem, List.length_take, List.length_drop] <;> omega) | assumption | decide | fail) only [go_sem, X_ingotref22_Encode, bO_cons, settleM_bx3, leaveM_bx3, hp1, List.length_map, d_a, Nat.reduceLeDiff, Nat.reduceLT, Nat.reduceAdd, Int.reduceAdd, Int.reduceSub, Int.reduceNeg, ↓reduceIte, Nat.reduceEqDiff, reduceCtorEq, Int.reduceBEq, Int.reduceBNe, Nat.reduceBEq]
theorem ref22_key (ps : List PI) (es : List EI) (hp : ps.length ≤ 1000000) (he : es.length ≤ 1000000) (ok0 : Bool) (h0 : ok0 = true → ps.length ≤ 800 ∧ es.length ≤ 100) :
    go X_ingotref22_Encode (.c (.loop b_ingotref22_Encode_6) :: .b 0 :: rK) ⟨[(1, .ref 0 1 0), (4, .d (.bool (ok0))), (5, .d (.int .i64 (0)))], [(⟨0, 1, 0⟩, .d (.sl (ps.map plI))), (⟨0, 1, 1⟩, .d (.sl (es.map enI)))]⟩ =
      some (encD (ok0 && ps.all inP && es.all inE, flatE ps es), []) := by
  obtain ⟨j, hA⟩ := ref22_okP ps (.sl (es.map enI)) hp rK ps 0 ok0 rfl (Nat.zero_le _)
  refine hA.trans ?_
  have hB := fun K => ref22_okE es (.sl (ps.map plI)) he K es 0 (ok0 && ps.all inP) rfl (Nat.zero_le _)
  unfold rK rM at *
  simp (disch := first | omega | (simp only [go_sem, List.length_take, List.length_drop] <;> omega) | assumption | decide | fail) only [go_sem, X_ingotref22_Encode, Nat.reduceLeDiff, Nat.reduceLT, Nat.reduceAdd, Int.reduceAdd, Int.reduceSub, Int.reduceNeg, ↓reduceIte, Nat.reduceEqDiff, reduceCtorEq, Int.reduceBEq, Int.reduceBNe, Nat.reduceBEq]
  obtain ⟨j2, hB⟩ := hB [.c (.seq r_ingotref22_Encode_12 (.cond (.t 84) (.seq r_ingotref22_Encode_13 .ret) (.seq r_ingotref22_Encode_14 (.seq (.seq r_ingotref22_Encode_15 (.block 4 (.loop b_ingotref22_Encode_20))) (.seq (.seq r_ingotref22_Encode_21 (.block 6 (.loop b_ingotref22_Encode_28))) (.seq r_ingotref22_Encode_29 (.seq r_ingotref22_Encode_30 (.cond (.t 151) (.seq r_ingotref22_Encode_31 .ret) (.seq r_ingotref22_Encode_32 .ret)))))))))]
  refine hB.trans ?_
  cases hok : (ok0 && ps.all inP && es.all inE) with
  | false =>
    simp (disch := first | omega | (simp only [go_sem, List.length_take, List.length_drop] <;> omega) | assumption | decide | fail) only [go_sem, X_ingotref22_Encode, Nat.reduceLeDiff, Nat.reduceLT, Nat.reduceAdd, Int.reduceAdd, Int.reduceSub, Int.reduceNeg, ↓reduceIte, Nat.reduceEqDiff, reduceCtorEq, Int.reduceBEq, Int.reduceBNe, Nat.reduceBEq]
    rfl
  | true =>
    rw [Bool.and_eq_true, Bool.and_eq_true] at hok
    obtain ⟨⟨g0, g1⟩, g2⟩ := hok
    obtain ⟨n1, n2⟩ := h0 g0
    have hl1 := flat_len plB 80 plB_len ps
    have hl2 := flat_len enB 60 enB_len es
    have hC := fun K => ref22_putP ps (.sl (es.map enI)) n1 (fun p hp => List.all_eq_true.1 g1 p hp) K ps 0 [] none rfl (Nat.zero_le _) (by simp)
    have hD := fun o K => ref22_putE es (.sl (ps.map plI)) n2 (fun p hp => List.all_eq_true.1 g2 p hp) o K es 0 ((ps.map plB).flatten) rfl (Nat.zero_le _) (by omega)
    have hT := fun o n => ref22_tail2 (.sl (ps.map plI)) (.sl (es.map enI)) o (flatE ps es) n (by unfold flatE; rw [List.length_append]; omega)
    rw [List.nil_append] at hC
    simp only [show bx3 9 none = [] from rfl, bO_nil] at hC
    unfold flatE at hT ⊢
    generalize ICode.seq r_ingotref22_Encode_29 (.seq r_ingotref22_Encode_30 (.cond (.t 151) (.seq r_ingotref22_Encode_31 .ret) (.seq r_ingotref22_Encode_32 .ret))) = c at *
    simp (disch := first | omega | (simp only [go_sem, List.length_take, List.length_drop] <;> omega) | assumption | decide | fail) only [go_sem, X_ingotref22_Encode, Nat.reduceLeDiff, Nat.reduceLT, Nat.reduceAdd, Int.reduceAdd, Int.reduceSub, Int.reduceNeg, ↓reduceIte, Nat.reduceEqDiff, reduceCtorEq, Int.reduceBEq, Int.reduceBNe, Nat.reduceBEq]
    obtain ⟨o, hC⟩ := hC [.c (.seq (.seq r_ingotref22_Encode_21 (.block 6 (.loop b_ingotref22_Encode_28))) c)]
    refine hC.trans ?_
    have hD := hD o [.c c]
    have hT := hT o es.length
    generalize (ps.map plB).flatten = q at *
    generalize hM : bx3 9 o = M at *
    have hs : settleM 0 M = M := by rw [← hM]; exact settleM_bx3 9 o
    simp (disch := first | omega | (simp only [go_sem, List.length_take, List.length_drop] <;> omega) | assumption | decide | fail) only [go_sem, X_ingotref22_Encode, home_bO, hs, Nat.reduceLeDiff, Nat.reduceLT, Nat.reduceAdd, Int.reduceAdd, Int.reduceSub, Int.reduceNeg, ↓reduceIte, Nat.reduceEqDiff, reduceCtorEq, Int.reduceBEq, Int.reduceBNe, Nat.reduceBEq]
    exact hD.trans hT
theorem ref22_Encode_ans (ps : List PI) (es : List EI) (hp : ps.length ≤ 1000000) (he : es.length ≤ 1000000) : evL cfg n_ingotref22_Encode 0 [.d (fI ps es)] [] = some (encD (okE ps es, flatE ps es), []) := by
  rw [o_ingotref22_Encode]
  unfold fI okE
  have d1 : decide ((ps.length : Int) ≤ 800) = decide (ps.length ≤ 800) := by
    by_cases h : ps.length ≤ 800
    · rw [decide_eq_true h, decide_eq_true (by omega)]
    · rw [decide_eq_false h, decide_eq_false (by omega)]
  have d2 : decide ((es.length : Int) ≤ 100) = decide (es.length ≤ 100) := by
    by_cases h : es.length ≤ 100
    · rw [decide_eq_true h, decide_eq_true (by omega)]
    · rw [decide_eq_false h, decide_eq_false (by omega)]
  by_cases h : ps.length ≤ 800
  · have k := ref22_key ps es hp he (decide (es.length ≤ 100)) (fun h' => ⟨h, of_decide_eq_true h'⟩)
    have e1 : decide ((ps.length : Int) ≤ 800) = true := by rw [d1]; exact decide_eq_true h
    rw [decide_eq_true h, Bool.true_and]
    simp (disch := first | omega | (simp only [go_sem, List.length_take, List.length_drop] <;> omega) | assumption | decide | fail) only [go_sem, X_ingotref22_Encode, c_ingotref22_Encode, List.length_map, e1, d2, Nat.reduceLeDiff, Nat.reduceLT, Nat.reduceAdd, Int.reduceAdd, Int.reduceSub, Int.reduceNeg, ↓reduceIte, Nat.reduceEqDiff, reduceCtorEq, Int.reduceBEq, Int.reduceBNe, Nat.reduceBEq]
    exact k
  · have k := ref22_key ps es hp he false (by simp)
    have e1 : decide ((ps.length : Int) ≤ 800) = false := by rw [d1]; exact decide_eq_false h
    rw [decide_eq_false h, Bool.false_and]
    simp (disch := first | omega | (simp only [go_sem, List.length_take, List.length_drop] <;> omega) | assumption | decide | fail) only [go_sem, X_ingotref22_Encode, c_ingotref22_Encode, List.length_map, e1, Nat.reduceLeDiff, Nat.reduceLT, Nat.reduceAdd, Int.reduceAdd, Int.reduceSub, Int.reduceNeg, ↓reduceIte, Nat.reduceEqDiff, reduceCtorEq, Int.reduceBEq, Int.reduceBNe, Nat.reduceBEq]
    exact k
end Go.Proofs.YtpflgebgmhnipaaGreatDoor
