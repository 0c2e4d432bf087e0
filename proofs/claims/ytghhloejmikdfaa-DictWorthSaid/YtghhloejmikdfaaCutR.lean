/- Bytes cut by lengths: the document's. -/
import Derived.Test.YtghhloejmikdfaaCut
namespace Go.Proofs.Ytghhloejmikdfaa
open Go Go.Ev
set_option linter.unusedVariables false
set_option linter.unusedSimpArgs false
set_option maxHeartbeats 2000000

theorem ref17_Cut_loop {b : Tx} {ix : List Int} (hb : b.length ≤ 1000000) (hx : ix.length ≤ 1000000) : ∀ (r : List Int) (i at' : Nat) (acc : List Tx), at' ≤ b.length → ix.drop i = r → i ≤ ix.length → acc.length = i →
    go X_ingotref17_Cut [.c (.loop b_ingotref17_Cut_15), .b 0, .c (.seq r_ingotref17_Cut_16 (.cond (.t 57) (.seq r_ingotref17_Cut_17 .ret) (.seq r_ingotref17_Cut_18 .ret)))] ⟨[(0, .d (.sl ((b).map byteD))), (1, .d (.sl ((ix).map (D.int .i64)))), (6, ownL (acc.map txt)), (7, .d (.int .i64 ((at' : Int)))), (8, .d (.int .i64 ((i : Int))))], []⟩ = some (.d (cutD acc (cutM (b.drop at') r)), [])
  | [], i, at', acc, hat, hr, hi, ha => by
    have h1 := dropEnd hr
    have d_a : decide ((i : Int) < ix.length) = false := by simp <;> omega
    rw [go_loop, cutM]
    by_cases e : at' = b.length
    · have d_b : ((at' : Int) != b.length) = false := by simp [e]
      have e2 : (b.drop at').isEmpty = true := by rw [e]; simp
      rw [if_pos e2]
      cases acc with
      | nil => simp (disch := first | omega | (simp only [go_sem, List.length_take, List.length_drop] <;> omega) | assumption | decide | fail) only [go_sem, X_ingotref17_Cut, d_a, d_b, ownL_nil, Nat.reduceLeDiff, Nat.reduceLT, Nat.reduceAdd, Int.reduceAdd, Int.reduceSub, Int.reduceNeg, ↓reduceIte, Nat.reduceEqDiff, reduceCtorEq]; rfl
      | cons a acc => simp (disch := first | omega | (simp only [go_sem, List.length_take, List.length_drop] <;> omega) | assumption | decide | fail) only [go_sem, X_ingotref17_Cut, d_a, d_b, ownL_cons, Nat.reduceLeDiff, Nat.reduceLT, Nat.reduceAdd, Int.reduceAdd, Int.reduceSub, Int.reduceNeg, ↓reduceIte, Nat.reduceEqDiff, reduceCtorEq]; simp [cutD]
    · have d_b : ((at' : Int) != b.length) = true := by simp; omega
      have e2 : ¬ (b.drop at').isEmpty = true := by simp; omega
      rw [if_neg e2]
      cases acc with
      | nil => simp (disch := first | omega | (simp only [go_sem, List.length_take, List.length_drop] <;> omega) | assumption | decide | fail) only [go_sem, X_ingotref17_Cut, d_a, d_b, ownL_nil, Nat.reduceLeDiff, Nat.reduceLT, Nat.reduceAdd, Int.reduceAdd, Int.reduceSub, Int.reduceNeg, ↓reduceIte, Nat.reduceEqDiff, reduceCtorEq]; rfl
      | cons a acc => simp (disch := first | omega | (simp only [go_sem, List.length_take, List.length_drop] <;> omega) | assumption | decide | fail) only [go_sem, X_ingotref17_Cut, d_a, d_b, ownL_cons, Nat.reduceLeDiff, Nat.reduceLT, Nat.reduceAdd, Int.reduceAdd, Int.reduceSub, Int.reduceNeg, ↓reduceIte, Nat.reduceEqDiff, reduceCtorEq]; simp [cutD]
  | n :: r, i, at', acc, hat, hr, hi, ha => by
    obtain ⟨hlt, hc, hr'⟩ := dropAt hr
    have d_a : decide ((i : Int) < ix.length) = true := by simp <;> omega
    rw [go_loop, cutM]
    rcases Bool.eq_false_or_eq_true (decide (n < 0)) with d_b | d_b <;> have p_b := d_b <;> simp only [decide_eq_true_eq, decide_eq_false_iff_not, beq_iff_eq, beq_eq_false_iff_ne, ne_eq] at p_b 
    · rw [if_pos p_b]
      cases acc with
      | nil => simp (disch := first | omega | (simp only [go_sem, List.length_take, List.length_drop] <;> omega) | assumption | decide | fail) only [go_sem, X_ingotref17_Cut, d_a, d_b, hc, ownL_nil, Nat.reduceLeDiff, Nat.reduceLT, Nat.reduceAdd, Int.reduceAdd, Int.reduceSub, Int.reduceNeg, ↓reduceIte, Nat.reduceEqDiff, reduceCtorEq]; rfl
      | cons a acc => simp (disch := first | omega | (simp only [go_sem, List.length_take, List.length_drop] <;> omega) | assumption | decide | fail) only [go_sem, X_ingotref17_Cut, d_a, d_b, hc, ownL_cons, Nat.reduceLeDiff, Nat.reduceLT, Nat.reduceAdd, Int.reduceAdd, Int.reduceSub, Int.reduceNeg, ↓reduceIte, Nat.reduceEqDiff, reduceCtorEq]; simp [cutD]
    · rw [if_neg p_b]
      rcases Bool.eq_false_or_eq_true (decide (n > 4096)) with d_c | d_c <;> have p_c := d_c <;> simp only [decide_eq_true_eq, decide_eq_false_iff_not, beq_iff_eq, beq_eq_false_iff_ne, ne_eq] at p_c 
      · rw [if_pos p_c]
        cases acc with
        | nil => simp (disch := first | omega | (simp only [go_sem, List.length_take, List.length_drop] <;> omega) | assumption | decide | fail) only [go_sem, X_ingotref17_Cut, d_a, d_b, d_c, hc, ownL_nil, Nat.reduceLeDiff, Nat.reduceLT, Nat.reduceAdd, Int.reduceAdd, Int.reduceSub, Int.reduceNeg, ↓reduceIte, Nat.reduceEqDiff, reduceCtorEq]; rfl
        | cons a acc => simp (disch := first | omega | (simp only [go_sem, List.length_take, List.length_drop] <;> omega) | assumption | decide | fail) only [go_sem, X_ingotref17_Cut, d_a, d_b, d_c, hc, ownL_cons, Nat.reduceLeDiff, Nat.reduceLT, Nat.reduceAdd, Int.reduceAdd, Int.reduceSub, Int.reduceNeg, ↓reduceIte, Nat.reduceEqDiff, reduceCtorEq]; simp [cutD]
      · rw [if_neg p_c]
        rcases Bool.eq_false_or_eq_true (decide (n > (b.length : Int) - at')) with d_d | d_d <;> have p_d := d_d <;> simp only [decide_eq_true_eq, decide_eq_false_iff_not, beq_iff_eq, beq_eq_false_iff_ne, ne_eq] at p_d 
        · rw [if_pos (by rw [List.length_drop]; omega)]
          cases acc with
          | nil => simp (disch := first | omega | (simp only [go_sem, List.length_take, List.length_drop] <;> omega) | assumption | decide | fail) only [go_sem, X_ingotref17_Cut, d_a, d_b, d_c, d_d, hc, ownL_nil, Nat.reduceLeDiff, Nat.reduceLT, Nat.reduceAdd, Int.reduceAdd, Int.reduceSub, Int.reduceNeg, ↓reduceIte, Nat.reduceEqDiff, reduceCtorEq]; rfl
          | cons a acc => simp (disch := first | omega | (simp only [go_sem, List.length_take, List.length_drop] <;> omega) | assumption | decide | fail) only [go_sem, X_ingotref17_Cut, d_a, d_b, d_c, d_d, hc, ownL_cons, Nat.reduceLeDiff, Nat.reduceLT, Nat.reduceAdd, Int.reduceAdd, Int.reduceSub, Int.reduceNeg, ↓reduceIte, Nat.reduceEqDiff, reduceCtorEq]; simp [cutD]
        · rw [if_neg (by rw [List.length_drop]; omega)]
          obtain ⟨m, rfl⟩ : ∃ m : Nat, n = m := ⟨n.toNat, by omega⟩
          rw [Int.toNat_natCast, List.drop_drop]
          have ih := ref17_Cut_loop hb hx r (i + 1) (at' + m) (acc ++ [(b.drop at').take m]) (by omega) hr' (by omega) (by simp; omega)
          rw [cutD_cons, List.map_append, List.map_cons, List.map_nil, ownL_snoc, show (((i + 1 : Nat)) : Int) = (i : Int) + 1 by omega, show (((at' + m : Nat)) : Int) = (at' : Int) + m by omega] at ih
          rw [← ih]
          have e2 : List.drop at' (List.take (at' + m) (b.map byteD)) = ((b.drop at').take m).map byteD := by
            rw [List.take_drop, List.map_drop, List.map_take]
          have e4 : ((at' : Int) + m).toNat = at' + m := by omega
          have e3 : ((b.drop at').take m).length ≤ 1000000 := by simp; omega
          generalize (b.drop at').take m = y at e2 e3 ⊢
          cases y with
          | nil =>
            rw [List.map_nil] at e2
            cases acc with
            | nil => simp (disch := first | omega | (simp only [go_sem, List.length_take, List.length_drop] <;> omega) | assumption | decide | fail) only [go_sem, X_ingotref17_Cut, d_a, d_b, d_c, d_d, hc, e2, e4, ownL_nil, Nat.reduceLeDiff, Nat.reduceLT, Nat.reduceAdd, Int.reduceAdd, Int.reduceSub, Int.reduceNeg, ↓reduceIte, Nat.reduceEqDiff, reduceCtorEq]; rfl
            | cons a acc =>
              rw [List.length_cons] at ha
              simp (disch := first | omega | (simp only [go_sem, List.length_take, List.length_drop] <;> omega) | assumption | decide | fail) only [go_sem, X_ingotref17_Cut, d_a, d_b, d_c, d_d, hc, e2, e4, ownL_cons, Nat.reduceLeDiff, Nat.reduceLT, Nat.reduceAdd, Int.reduceAdd, Int.reduceSub, Int.reduceNeg, ↓reduceIte, Nat.reduceEqDiff, reduceCtorEq]; rfl
          | cons z y =>
            rw [List.length_cons] at e3
            rw [List.map_cons] at e2
            cases acc with
            | nil => simp (disch := first | omega | (simp only [go_sem, List.length_take, List.length_drop] <;> omega) | assumption | decide | fail) only [go_sem, X_ingotref17_Cut, d_a, d_b, d_c, d_d, hc, e2, e4, ownL_nil, Nat.reduceLeDiff, Nat.reduceLT, Nat.reduceAdd, Int.reduceAdd, Int.reduceSub, Int.reduceNeg, ↓reduceIte, Nat.reduceEqDiff, reduceCtorEq]; rfl
            | cons a acc =>
              rw [List.length_cons] at ha
              simp (disch := first | omega | (simp only [go_sem, List.length_take, List.length_drop] <;> omega) | assumption | decide | fail) only [go_sem, X_ingotref17_Cut, d_a, d_b, d_c, d_d, hc, e2, e4, ownL_cons, Nat.reduceLeDiff, Nat.reduceLT, Nat.reduceAdd, Int.reduceAdd, Int.reduceSub, Int.reduceNeg, ↓reduceIte, Nat.reduceEqDiff, reduceCtorEq]; rfl
theorem ref17_Cut_ans {b : Tx} {ix : List Int} (hb : b.length ≤ 1000000) (hx : ix.length ≤ 1000000) : evL cfg n_ingotref17_Cut 0 [.d (.sl ((b).map byteD)), .d (.sl ((ix).map (D.int .i64)))] [] = some (.d (cutD [] (cutM b ix)), []) := by
  rw [o_ingotref17_Cut]
  have hl := ref17_Cut_loop hb hx ix 0 0 [] (Nat.zero_le _) rfl (Nat.zero_le _) rfl
  rw [nc0, List.map_nil, ownL_nil, List.drop_zero] at hl
  simp (disch := first | omega | (simp only [go_sem, List.length_take, List.length_drop] <;> omega) | assumption | decide | fail) only [go_sem, X_ingotref17_Cut, c_ingotref17_Cut, Nat.reduceLeDiff, Nat.reduceLT, Nat.reduceAdd, Int.reduceAdd, Int.reduceSub, Int.reduceNeg, ↓reduceIte, Nat.reduceEqDiff, reduceCtorEq]
  exact hl
end Go.Proofs.Ytghhloejmikdfaa
