/- Bytes cut by lengths. -/
import Derived.Test.YtghhloejmikdfaaExp
namespace Go.Proofs.Ytghhloejmikdfaa
open Go Go.Ev
set_option linter.unusedVariables false
set_option linter.unusedSimpArgs false
set_option maxHeartbeats 2000000

/-- the texts of lengths, or which fault -/
def cutM (b : Tx) : List Int → Int × List Tx
  | [] => if b.isEmpty then (0, []) else (2, [])
  | n :: r => if n < 0 then (2, []) else if 4096 < n then (4, []) else if (b.length : Int) < n then (3, []) else ((cutM (b.drop n.toNat) r).1, b.take n.toNat :: (cutM (b.drop n.toNat) r).2)
def cutD (acc : List Tx) (o : Int × List Tx) : D := if o.1 = 0 then .tup [.sl ((acc ++ o.2).map txt), .int .i64 0] else .tup [.sl [], .int .i64 o.1]
theorem cutD_cons (acc : List Tx) (x : Tx) (e : Int) (l : List Tx) : cutD (acc ++ [x]) (e, l) = cutD acc (e, x :: l) := by
  simp [cutD]
theorem clone_ans' (b : Tx) (hl : b.length ≤ 1000000) : evL cfg n_slices_Clone_Sbyte_byte 0 [.d (.sl ((b).map byteD))] [] = some (ownL (b.map byteD), []) := clone_ans b hl
theorem dict_Cut_loop {ix : List Int} (hx : ix.length ≤ 1000000) : ∀ (r : List Int) (i : Nat) (b : Tx) (acc : List Tx), b.length ≤ 1000000 → ix.drop i = r → i ≤ ix.length → acc.length = i →
    go X_dict_Cut [.c (.loop b_dict_Cut_14), .b 0, .c (.seq r_dict_Cut_15 (.cond (.t 40) (.seq r_dict_Cut_16 .ret) (.seq r_dict_Cut_17 .ret)))] ⟨[(0, .d (.sl ((b).map byteD))), (6, ownL (acc.map txt)), (9, .d (.sl ((ix).map (D.int .i64)))), (10, .d (.int .i64 ((ix.length : Int)))), (11, .d (.int .i64 ((i : Int))))], []⟩ = some (.d (cutD acc (cutM b r)), [])
  | [], i, b, acc, hb, hr, hi, ha => by
    have h1 := dropEnd hr
    have d_a : decide ((i : Int) < ix.length) = false := by simp <;> omega
    rw [go_loop, cutM]
    cases b with
    | nil =>
      cases acc with
      | nil => simp (disch := first | omega | (simp only [go_sem, List.length_take, List.length_drop] <;> omega) | assumption | decide | fail) only [go_sem, X_dict_Cut, d_a, ownL_nil, List.map_nil, nc0, show decide ((0 : Int) > 0) = false from rfl, Nat.reduceLeDiff, Nat.reduceLT, Nat.reduceAdd, Int.reduceAdd, Int.reduceSub, Int.reduceNeg, ↓reduceIte, Nat.reduceEqDiff, reduceCtorEq]; rfl
      | cons a acc => simp (disch := first | omega | (simp only [go_sem, List.length_take, List.length_drop] <;> omega) | assumption | decide | fail) only [go_sem, X_dict_Cut, d_a, ownL_cons, List.map_nil, nc0, show decide ((0 : Int) > 0) = false from rfl, Nat.reduceLeDiff, Nat.reduceLT, Nat.reduceAdd, Int.reduceAdd, Int.reduceSub, Int.reduceNeg, ↓reduceIte, Nat.reduceEqDiff, reduceCtorEq]; simp [cutD]
    | cons c b =>
      have d_b : decide (((b.length + 1 : Nat) : Int) > 0) = true := by simp <;> omega
      cases acc with
      | nil => simp (disch := first | omega | (simp only [go_sem, List.length_take, List.length_drop] <;> omega) | assumption | decide | fail) only [go_sem, X_dict_Cut, d_a, d_b, ownL_nil, Nat.reduceLeDiff, Nat.reduceLT, Nat.reduceAdd, Int.reduceAdd, Int.reduceSub, Int.reduceNeg, ↓reduceIte, Nat.reduceEqDiff, reduceCtorEq]; rfl
      | cons a acc => simp (disch := first | omega | (simp only [go_sem, List.length_take, List.length_drop] <;> omega) | assumption | decide | fail) only [go_sem, X_dict_Cut, d_a, d_b, ownL_cons, Nat.reduceLeDiff, Nat.reduceLT, Nat.reduceAdd, Int.reduceAdd, Int.reduceSub, Int.reduceNeg, ↓reduceIte, Nat.reduceEqDiff, reduceCtorEq]; simp [cutD]
  | n :: r, i, b, acc, hb, hr, hi, ha => by
    obtain ⟨hlt, hc, hr'⟩ := dropAt hr
    have d_a : decide ((i : Int) < ix.length) = true := by simp <;> omega
    rw [go_loop, cutM]
    rcases Bool.eq_false_or_eq_true (decide (n < 0)) with d_b | d_b <;> have p_b := d_b <;> simp only [decide_eq_true_eq, decide_eq_false_iff_not, beq_iff_eq, beq_eq_false_iff_ne, ne_eq] at p_b 
    · rw [if_pos p_b]
      cases acc with
      | nil => simp (disch := first | omega | (simp only [go_sem, List.length_take, List.length_drop] <;> omega) | assumption | decide | fail) only [go_sem, X_dict_Cut, d_a, d_b, hc, ownL_nil, Nat.reduceLeDiff, Nat.reduceLT, Nat.reduceAdd, Int.reduceAdd, Int.reduceSub, Int.reduceNeg, ↓reduceIte, Nat.reduceEqDiff, reduceCtorEq]; rfl
      | cons a acc => simp (disch := first | omega | (simp only [go_sem, List.length_take, List.length_drop] <;> omega) | assumption | decide | fail) only [go_sem, X_dict_Cut, d_a, d_b, hc, ownL_cons, Nat.reduceLeDiff, Nat.reduceLT, Nat.reduceAdd, Int.reduceAdd, Int.reduceSub, Int.reduceNeg, ↓reduceIte, Nat.reduceEqDiff, reduceCtorEq]; simp [cutD]
    · rw [if_neg p_b]
      rcases Bool.eq_false_or_eq_true (decide (n > 4096)) with d_c | d_c <;> have p_c := d_c <;> simp only [decide_eq_true_eq, decide_eq_false_iff_not, beq_iff_eq, beq_eq_false_iff_ne, ne_eq] at p_c 
      · rw [if_pos p_c]
        cases acc with
        | nil => simp (disch := first | omega | (simp only [go_sem, List.length_take, List.length_drop] <;> omega) | assumption | decide | fail) only [go_sem, X_dict_Cut, d_a, d_b, d_c, hc, ownL_nil, Nat.reduceLeDiff, Nat.reduceLT, Nat.reduceAdd, Int.reduceAdd, Int.reduceSub, Int.reduceNeg, ↓reduceIte, Nat.reduceEqDiff, reduceCtorEq]; rfl
        | cons a acc => simp (disch := first | omega | (simp only [go_sem, List.length_take, List.length_drop] <;> omega) | assumption | decide | fail) only [go_sem, X_dict_Cut, d_a, d_b, d_c, hc, ownL_cons, Nat.reduceLeDiff, Nat.reduceLT, Nat.reduceAdd, Int.reduceAdd, Int.reduceSub, Int.reduceNeg, ↓reduceIte, Nat.reduceEqDiff, reduceCtorEq]; simp [cutD]
      · rw [if_neg p_c]
        rcases Bool.eq_false_or_eq_true (decide (n > (b.length : Int))) with d_d | d_d <;> have p_d := d_d <;> simp only [decide_eq_true_eq, decide_eq_false_iff_not, beq_iff_eq, beq_eq_false_iff_ne, ne_eq] at p_d 
        · rw [if_pos p_d]
          cases acc with
          | nil => simp (disch := first | omega | (simp only [go_sem, List.length_take, List.length_drop] <;> omega) | assumption | decide | fail) only [go_sem, X_dict_Cut, d_a, d_b, d_c, d_d, hc, ownL_nil, Nat.reduceLeDiff, Nat.reduceLT, Nat.reduceAdd, Int.reduceAdd, Int.reduceSub, Int.reduceNeg, ↓reduceIte, Nat.reduceEqDiff, reduceCtorEq]; rfl
          | cons a acc => simp (disch := first | omega | (simp only [go_sem, List.length_take, List.length_drop] <;> omega) | assumption | decide | fail) only [go_sem, X_dict_Cut, d_a, d_b, d_c, d_d, hc, ownL_cons, Nat.reduceLeDiff, Nat.reduceLT, Nat.reduceAdd, Int.reduceAdd, Int.reduceSub, Int.reduceNeg, ↓reduceIte, Nat.reduceEqDiff, reduceCtorEq]; simp [cutD]
        · rw [if_neg p_d]
          obtain ⟨m, rfl⟩ : ∃ m : Nat, n = m := ⟨n.toNat, by omega⟩
          rw [Int.toNat_natCast]
          have ih := dict_Cut_loop hx r (i + 1) (b.drop m) (acc ++ [b.take m]) (by simp; omega) hr' (by omega) (by simp; omega)
          rw [cutD_cons, List.map_append, List.map_cons, List.map_nil, ownL_snoc, show (((i + 1 : Nat)) : Int) = (i : Int) + 1 by omega] at ih
          rw [← ih]
          have e1 : List.drop m (List.take b.length (b.map byteD)) = (b.drop m).map byteD := by rw [List.take_of_length_le (by simp), List.map_drop]
          have e2 : List.take m (b.map byteD) = (b.take m).map byteD := by rw [List.map_take]
          have e3 : (b.take m).length ≤ 1000000 := by simp; omega
          cases acc with
          | nil => simp (disch := first | omega | (simp only [go_sem, List.length_take, List.length_drop] <;> omega) | assumption | decide | fail) only [go_sem, X_dict_Cut, d_a, d_b, d_c, d_d, hc, e1, e2, clone_ans' _ e3, landed_ownL, ownL_nil, Nat.reduceLeDiff, Nat.reduceLT, Nat.reduceAdd, Int.reduceAdd, Int.reduceSub, Int.reduceNeg, ↓reduceIte, Nat.reduceEqDiff, reduceCtorEq]; rfl
          | cons a acc =>
            rw [List.length_cons] at ha
            simp (disch := first | omega | (simp only [go_sem, List.length_take, List.length_drop] <;> omega) | assumption | decide | fail) only [go_sem, X_dict_Cut, d_a, d_b, d_c, d_d, hc, e1, e2, clone_ans' _ e3, landed_ownL, ownL_cons, Nat.reduceLeDiff, Nat.reduceLT, Nat.reduceAdd, Int.reduceAdd, Int.reduceSub, Int.reduceNeg, ↓reduceIte, Nat.reduceEqDiff, reduceCtorEq]; rfl
theorem dict_Cut_ans {b : Tx} {ix : List Int} (hb : b.length ≤ 1000000) (hx : ix.length ≤ 1000000) : evL cfg n_dict_Cut 0 [.d (.sl ((b).map byteD)), .d (.sl ((ix).map (D.int .i64)))] [] = some (.d (cutD [] (cutM b ix)), []) := by
  rw [o_dict_Cut]
  have hl := dict_Cut_loop hx ix 0 b [] hb rfl (Nat.zero_le _) rfl
  rw [nc0, List.map_nil, ownL_nil] at hl
  simp (disch := first | omega | (simp only [go_sem, List.length_take, List.length_drop] <;> omega) | assumption | decide | fail) only [go_sem, X_dict_Cut, c_dict_Cut, Nat.reduceLeDiff, Nat.reduceLT, Nat.reduceAdd, Int.reduceAdd, Int.reduceSub, Int.reduceNeg, ↓reduceIte, Nat.reduceEqDiff, reduceCtorEq]
  exact hl
end Go.Proofs.Ytghhloejmikdfaa
