/- DictJoins holds of any texts and any cut. -/
import Derived.Test.YtghhloejmikdfaaLawDictMakes
namespace Go.Proofs.Ytghhloejmikdfaa
open Go Go.Ev
set_option linter.unusedVariables false
set_option linter.unusedSimpArgs false
set_option maxHeartbeats 2000000

theorem flat_len : ∀ {l : List Tx}, (∀ x ∈ l, x.length ≤ 200) → l.flatten.length ≤ 200 * l.length
  | [], _ => by simp
  | x :: l, h => by
    have h1 := h x List.mem_cons_self
    have h2 := flat_len (l := l) fun y hy => h y (List.mem_cons_of_mem _ hy)
    rw [List.flatten_cons, List.length_append, List.length_cons]
    omega
/-- texts joined are cut into themselves -/
theorem cut_join : ∀ {l : List Tx}, (∀ x ∈ l, x.length ≤ 200) → cutM l.flatten (lensT l) = (0, l)
  | [], _ => rfl
  | x :: l, h => by
    have h1 := h x List.mem_cons_self
    have ih := cut_join (l := l) fun y hy => h y (List.mem_cons_of_mem _ hy)
    have e : lensT (x :: l) = (x.length : Int) :: lensT l := rfl
    rw [e, cutM, if_neg (by omega), if_neg (by omega), if_neg (by rw [List.flatten_cons, List.length_append]; omega), Int.toNat_natCast, List.flatten_cons, List.drop_left, List.take_left, ih]
theorem lensT_length (l : List Tx) : (lensT l).length = l.length := by simp [lensT]
theorem lawDictJoins (l : List Tx) (hl : l.length < 2 ^ 63) (c : Int) : evL cfg n_ingotlaw17_DictJoins 0 [.d (.sl ((l).map txt)), .d (.int .i64 (c))] [] = some (.d (.bool (true)), []) := by
  rw [o_ingotlaw17_DictJoins]
  have hf := law17_few_ans l hl
  rcases Bool.eq_false_or_eq_true (fewT l) with h | h
  · rcases Bool.eq_false_or_eq_true (decide (c < 0)) with d_a | d_a <;> have p_a := d_a <;> simp only [decide_eq_true_eq, decide_eq_false_iff_not, beq_iff_eq, beq_eq_false_iff_ne, ne_eq] at p_a 
    · simp (disch := first | omega | (simp only [go_sem, List.length_take, List.length_drop] <;> omega) | assumption | decide | fail) only [go_sem, X_ingotlaw17_DictJoins, c_ingotlaw17_DictJoins, known_ok, hf, h, d_a, Nat.reduceLeDiff, Nat.reduceLT, Nat.reduceAdd, Int.reduceAdd, Int.reduceSub, Int.reduceNeg, ↓reduceIte, Nat.reduceEqDiff, reduceCtorEq]
    · rcases Bool.eq_false_or_eq_true (decide (c > (l.length : Int))) with d_b | d_b <;> have p_b := d_b <;> simp only [decide_eq_true_eq, decide_eq_false_iff_not, beq_iff_eq, beq_eq_false_iff_ne, ne_eq] at p_b 
      · simp (disch := first | omega | (simp only [go_sem, List.length_take, List.length_drop] <;> omega) | assumption | decide | fail) only [go_sem, X_ingotlaw17_DictJoins, c_ingotlaw17_DictJoins, known_ok, hf, h, d_a, d_b, Nat.reduceLeDiff, Nat.reduceLT, Nat.reduceAdd, Int.reduceAdd, Int.reduceSub, Int.reduceNeg, ↓reduceIte, Nat.reduceEqDiff, reduceCtorEq]
      · obtain ⟨n, rfl⟩ : ∃ n : Nat, c = n := ⟨c.toNat, by omega⟩
        obtain ⟨h1, h2⟩ := fewT_len h
        have hfl := flat_len h2
        have ht : (l.take n).length ≤ 150 := by simp; omega
        have hd : (l.drop n).length ≤ 150 := by simp; omega
        have htf := flat_len (l := l.take n) fun x hx => h2 x (List.mem_of_mem_take hx)
        have hdf := flat_len (l := l.drop n) fun x hx => h2 x (List.mem_of_mem_drop hx)
        have c1 := dict_Join_ans (l := l) (by omega) (by omega)
        have c2 := dict_Join_ans (l := l.take n) (by omega) (by omega)
        have c3 := dict_Join_ans (l := l.drop n) (by omega) (by omega)
        have c4 := dict_Cut_ans (b := l.flatten) (ix := lensT l) (by omega) (by rw [lensT_length]; omega)
        rw [cut_join h2] at c4
        simp only [cutD, if_true, List.nil_append] at c4
        have s1 := law17_Same_ans (a := l) (b := l) (by omega) (by omega)
        have s2 := law8_Same_ans (a := lensT l) (b := lensT l) (by rw [lensT_length]; omega) (by rw [lensT_length]; omega)
        have e1 : List.take n (l.map txt) = (l.take n).map txt := by rw [List.map_take]
        have e2 : List.drop n (l.map txt) = (l.drop n).map txt := by rw [List.map_drop]
        have e3 : l.flatten = (l.take n).flatten ++ (l.drop n).flatten := by rw [← List.flatten_append, List.take_append_drop]
        have e4 : lensT l = lensT (l.take n) ++ lensT (l.drop n) := by unfold lensT; rw [← List.map_append, List.take_append_drop]
        have e5 : List.take l.length (l.map txt) = l.map txt := List.take_of_length_le (by simp)
        have g1 := lensT_length (l.take n)
        have g2 := lensT_length (l.drop n)
        have g3 := lensT_length l
        have e6 : (l.flatten == (l.take n).flatten ++ (l.drop n).flatten) = true := by rw [← e3]; simp
        have e7 : ((lensT l).length : Int) = l.length := by rw [g3]
        by_cases hne : l = []
        · subst hne
          have : n = 0 := by simpa using p_b
          subst this
          exact (o_ingotlaw17_DictJoins _ _).symm.trans (evL_of_evFn (n := 20) (by kernel_rfl))
        · have hpos := List.length_pos_iff.2 hne
          have nn : ∀ u : List Int, 0 < u.length → u.map (D.int .i64) ≠ [] := fun u hu e => by
            have := congrArg List.length e
            simp at this
            rw [this] at hu
            cases hu
          by_cases hn0 : n = 0
          · have e8 : lensT (l.take n) = [] := by rw [hn0]; rfl
            have e9 : lensT (l.drop n) = lensT l := by rw [e4, e8, List.nil_append]
            rw [e8, List.map_nil] at c2
            rw [e9] at c3
            simp (disch := first | omega | (simp only [go_sem, List.length_take, List.length_drop] <;> omega) | assumption | decide | fail) only [go_sem, X_ingotlaw17_DictJoins, c_ingotlaw17_DictJoins, known_ok, hf, h, d_a, d_b, c1, c2, c3, c4, s1, s2, e1, e2, e5, e6, e7, appV_nilv _ _ _ _ (nn (lensT l) (by omega)) (by rw [List.length_map]; omega), Nat.reduceLeDiff, Nat.reduceLT, Nat.reduceAdd, Int.reduceAdd, Int.reduceSub, Int.reduceNeg, ↓reduceIte, Nat.reduceEqDiff, reduceCtorEq]
          · have hp0 : 0 < (lensT (l.take n)).length := by rw [g1, List.length_take]; omega
            have e9 : (lensT (l.take n)).map (D.int .i64) ++ (lensT (l.drop n)).map (D.int .i64) = (lensT l).map (D.int .i64) := by rw [e4, List.map_append]
            simp (disch := first | omega | (simp only [go_sem, List.length_take, List.length_drop] <;> omega) | assumption | decide | fail) only [go_sem, X_ingotlaw17_DictJoins, c_ingotlaw17_DictJoins, known_ok, hf, h, d_a, d_b, c1, c2, c3, c4, s1, s2, e1, e2, e5, e6, e7, e9, appV_nilv _ _ _ _ (nn _ hp0) (by rw [List.length_map]; omega), Nat.reduceLeDiff, Nat.reduceLT, Nat.reduceAdd, Int.reduceAdd, Int.reduceSub, Int.reduceNeg, ↓reduceIte, Nat.reduceEqDiff, reduceCtorEq]
  · simp (disch := first | omega | (simp only [go_sem, List.length_take, List.length_drop] <;> omega) | assumption | decide | fail) only [go_sem, X_ingotlaw17_DictJoins, c_ingotlaw17_DictJoins, known_ok, hf, h, Nat.reduceLeDiff, Nat.reduceLT, Nat.reduceAdd, Int.reduceAdd, Int.reduceSub, Int.reduceNeg, ↓reduceIte, Nat.reduceEqDiff, reduceCtorEq]
theorem rowDictJoins (a0 : List Tx) (a1 : Int) (m0 : a0.length ≤ maxLen) (w1 : (Lit.int .i64 a1).wf = true) : evL cfg n_ingotlaw17_DictJoins 0 [.d (.sl ((a0).map txt)), .d (.int .i64 (a1))] [] = some (.d (.bool (true)), []) := lawDictJoins a0 (len63 m0) a1
end Go.Proofs.Ytghhloejmikdfaa
