/- P1102: noughts behind the point. -/
import Derived.Test.YteckebocflnkdaaDoorPrsB
import Derived.Test.YteckebocflnkdaaDoorK
import Derived.Test.YteckebocflnkdaaDoorWrd
namespace Go.Proofs.YteckebocflnkdaaDoor.deciAdds
open Go Go.Ev
set_option linter.unusedSimpArgs false
set_option linter.unusedVariables false
set_option maxHeartbeats 4000000
theorem zer_snoc' (x : List UInt8) (k : Nat) : (x ++ [48]) ++ zer k = x ++ zer (k + 1) := by
  rw [List.append_assoc]
  rfl
theorem loop (v : Int) (s z : Nat) (hz : z ≤ 18) (K : List Kf) : ∀ (k i : Nat) (t : List UInt8), i + k = z → t.length + k ≤ 1000 →
    go X_ingotlaw11_DeciAdds (.c (.loop b_ingotlaw11_DeciAdds_12) :: .b 0 :: K) ⟨[(0, .d (.int .i64 (v))), (1, .d (.int .i64 ((s : Int)))), (2, .d (.int .i64 ((z : Int)))), (7, .d (.str (t))), (8, .d (.int .i64 ((i : Int))))], []⟩ =
      go X_ingotlaw11_DeciAdds K ⟨[(0, .d (.int .i64 (v))), (1, .d (.int .i64 ((s : Int)))), (2, .d (.int .i64 ((z : Int)))), (7, .d (.str (t ++ zer k))), (8, .d (.int .i64 ((z : Int)))), (44, .d (.bool (false)))], []⟩
  | 0, i, t, h, ht => by
    obtain rfl : i = z := by omega
    have d_a : decide ((i : Int) < i) = false := by simp <;> omega
    rw [go_loop, show zer 0 = [] from rfl, List.append_nil]
    simp (disch := first | omega | (simp only [List.length_append, List.length_cons, List.length_nil, List.length_map, List.length_take, List.length_drop] <;> omega) | assumption | decide | (simp only [List.length_append, List.length_cons, List.length_nil, List.length_map] at * <;> omega) | fail) only [go_sem, wrap_i64, wrap_u64, X_ingotlaw11_DeciAdds, d_a, Bool.not_true, Bool.not_false, Bool.true_and, Bool.false_and, Bool.and_true, Bool.and_false, Bool.true_or, Bool.false_or, Bool.or_true, Bool.or_false, true_and, and_true, and_self, Nat.reduceLeDiff, Nat.reduceLT, Nat.reduceAdd, Nat.zero_lt_succ, Nat.lt_add_one, Option.some.injEq, Loc.slot.injEq, Int.reduceAdd, Int.reduceSub, Int.reduceMul, Int.reduceNeg, beq_self_eq_true, List.length_cons, List.length_nil, decide_true, decide_false, Bool.and_self, bne_self_eq_false, ↓reduceIte, Nat.reduceEqDiff, reduceCtorEq, Bool.false_eq_true]
  | k + 1, i, t, h, ht => by
    have d_a : decide ((i : Int) < z) = true := by simp <;> omega
    have ih := loop v s z hz K k (i + 1) (t ++ [48]) (by omega) (by simp; omega)
    rw [zer_snoc', show (((i + 1 : Nat)) : Int) = (i : Int) + 1 by omega] at ih
    rw [go_loop]
    simp (disch := first | omega | (simp only [List.length_append, List.length_cons, List.length_nil, List.length_map, List.length_take, List.length_drop] <;> omega) | assumption | decide | (simp only [List.length_append, List.length_cons, List.length_nil, List.length_map] at * <;> omega) | fail) only [go_sem, wrap_i64, wrap_u64, X_ingotlaw11_DeciAdds, d_a, Bool.not_true, Bool.not_false, Bool.true_and, Bool.false_and, Bool.and_true, Bool.and_false, Bool.true_or, Bool.false_or, Bool.or_true, Bool.or_false, true_and, and_true, and_self, Nat.reduceLeDiff, Nat.reduceLT, Nat.reduceAdd, Nat.zero_lt_succ, Nat.lt_add_one, Option.some.injEq, Loc.slot.injEq, Int.reduceAdd, Int.reduceSub, Int.reduceMul, Int.reduceNeg, beq_self_eq_true, List.length_cons, List.length_nil, decide_true, decide_false, Bool.and_self, bne_self_eq_false, ↓reduceIte, Nat.reduceEqDiff, reduceCtorEq, Bool.false_eq_true]
    exact ih
theorem parse_adds {v : Int} {s z : Nat} (hv : inI v) (hs : s ≤ 18) (t : List UInt8) (ht : t = textS v s ++ (if s = 0 ∧ 0 < z then [46] else []) ++ zer z) : parseM t (s + z) = if inI (v * ((10 ^ z : Nat) : Int)) then (v * ((10 ^ z : Nat) : Int), 0) else (0, 4) := by
  have hb := parse_body (decide (v < 0)) v.natAbs s z hs (by unfold inI at hv; omega) t (by omega) (by
    rw [ht]
    unfold textS bodyS
    rw [pointS_form]
    generalize padS (decF 20 v.natAbs) s = d
    have key : (d.take (d.length - s) ++ (if s = 0 then [] else 46 :: d.drop (d.length - s))) ++ (if s = 0 ∧ 0 < z then [46] else []) ++ zer z = d.take (d.length - s) ++ (if s + z = 0 then [] else 46 :: (d.drop (d.length - s) ++ zer z)) := by
      by_cases h0 : s = 0
      · subst h0
        by_cases hz : z = 0
        · subst hz; simp [zer]
        · rw [if_pos rfl, if_pos ⟨rfl, by omega⟩, if_neg (by omega), Nat.sub_zero, List.drop_length, List.take_length, List.append_nil, List.append_assoc]
          rfl
      · rw [if_neg h0, if_neg (by omega), if_neg (by omega), List.append_nil, List.append_assoc]
        rfl
    by_cases c : v < 0
    · rw [if_pos c]
      simp only [c, decide_true, if_true, List.cons_append, List.nil_append]
      rw [key]
    · rw [if_neg c]
      simp only [c, decide_false, Bool.false_eq_true, if_false, List.nil_append]
      rw [key])
  have e : sgn (decide (v < 0)) ((v.natAbs * 10 ^ z : Nat) : Int) = v * ((10 ^ z : Nat) : Int) := by
    rw [Int.natCast_mul]
    unfold sgn
    split
    · rename_i h
      have := of_decide_eq_true h
      rw [show ((v.natAbs : Nat) : Int) = -v by omega, Int.neg_mul]
      omega
    · rename_i h
      have : ¬ v < 0 := fun c => h (decide_eq_true c)
      rw [show ((v.natAbs : Nat) : Int) = v by omega]
  rw [hb]
  simp only [e]
theorem law (a0 a1 a2 : Int) (w0 : (Lit.int .i64 a0).wf = true) (w1 : (Lit.int .i64 a1).wf = true) (w2 : (Lit.int .i64 a2).wf = true) :
    evL cfg n_ingotlaw11_DeciAdds 0 [.d (.int .i64 (a0)), .d (.int .i64 (a1)), .d (.int .i64 (a2))] [] = some (.d (.bool (true)), []) := by
  rw [o_ingotlaw11_DeciAdds]
  rcases Bool.eq_false_or_eq_true (decide (a1 < 0)) with d_p1 | d_p1 <;> have p_p1 := d_p1 <;> simp only [decide_eq_true_eq, decide_eq_false_iff_not, beq_iff_eq, beq_eq_false_iff_ne, ne_eq] at p_p1 
  · simp (disch := first | omega | (simp only [List.length_append, List.length_cons, List.length_nil, List.length_map, List.length_take, List.length_drop] <;> omega) | assumption | decide | (simp only [List.length_append, List.length_cons, List.length_nil, List.length_map] at * <;> omega) | fail) only [go_sem, wrap_i64, wrap_u64, X_ingotlaw11_DeciAdds, c_ingotlaw11_DeciAdds, known_ok, d_p1, Bool.not_true, Bool.not_false, Bool.true_and, Bool.false_and, Bool.and_true, Bool.and_false, Bool.true_or, Bool.false_or, Bool.or_true, Bool.or_false, true_and, and_true, and_self, Nat.reduceLeDiff, Nat.reduceLT, Nat.reduceAdd, Nat.zero_lt_succ, Nat.lt_add_one, Option.some.injEq, Loc.slot.injEq, Int.reduceAdd, Int.reduceSub, Int.reduceMul, Int.reduceNeg, beq_self_eq_true, List.length_cons, List.length_nil, decide_true, decide_false, Bool.and_self, bne_self_eq_false, ↓reduceIte, Nat.reduceEqDiff, reduceCtorEq, Bool.false_eq_true]
  rcases Bool.eq_false_or_eq_true (decide (a1 > 18)) with d_p2 | d_p2 <;> have p_p2 := d_p2 <;> simp only [decide_eq_true_eq, decide_eq_false_iff_not, beq_iff_eq, beq_eq_false_iff_ne, ne_eq] at p_p2 
  · simp (disch := first | omega | (simp only [List.length_append, List.length_cons, List.length_nil, List.length_map, List.length_take, List.length_drop] <;> omega) | assumption | decide | (simp only [List.length_append, List.length_cons, List.length_nil, List.length_map] at * <;> omega) | fail) only [go_sem, wrap_i64, wrap_u64, X_ingotlaw11_DeciAdds, c_ingotlaw11_DeciAdds, known_ok, d_p1, d_p2, Bool.not_true, Bool.not_false, Bool.true_and, Bool.false_and, Bool.and_true, Bool.and_false, Bool.true_or, Bool.false_or, Bool.or_true, Bool.or_false, true_and, and_true, and_self, Nat.reduceLeDiff, Nat.reduceLT, Nat.reduceAdd, Nat.zero_lt_succ, Nat.lt_add_one, Option.some.injEq, Loc.slot.injEq, Int.reduceAdd, Int.reduceSub, Int.reduceMul, Int.reduceNeg, beq_self_eq_true, List.length_cons, List.length_nil, decide_true, decide_false, Bool.and_self, bne_self_eq_false, ↓reduceIte, Nat.reduceEqDiff, reduceCtorEq, Bool.false_eq_true]
  rcases Bool.eq_false_or_eq_true (decide (a2 < 0)) with d_p3 | d_p3 <;> have p_p3 := d_p3 <;> simp only [decide_eq_true_eq, decide_eq_false_iff_not, beq_iff_eq, beq_eq_false_iff_ne, ne_eq] at p_p3 
  · simp (disch := first | omega | (simp only [List.length_append, List.length_cons, List.length_nil, List.length_map, List.length_take, List.length_drop] <;> omega) | assumption | decide | (simp only [List.length_append, List.length_cons, List.length_nil, List.length_map] at * <;> omega) | fail) only [go_sem, wrap_i64, wrap_u64, X_ingotlaw11_DeciAdds, c_ingotlaw11_DeciAdds, known_ok, d_p1, d_p2, d_p3, Bool.not_true, Bool.not_false, Bool.true_and, Bool.false_and, Bool.and_true, Bool.and_false, Bool.true_or, Bool.false_or, Bool.or_true, Bool.or_false, true_and, and_true, and_self, Nat.reduceLeDiff, Nat.reduceLT, Nat.reduceAdd, Nat.zero_lt_succ, Nat.lt_add_one, Option.some.injEq, Loc.slot.injEq, Int.reduceAdd, Int.reduceSub, Int.reduceMul, Int.reduceNeg, beq_self_eq_true, List.length_cons, List.length_nil, decide_true, decide_false, Bool.and_self, bne_self_eq_false, ↓reduceIte, Nat.reduceEqDiff, reduceCtorEq, Bool.false_eq_true]
  rcases Bool.eq_false_or_eq_true (decide (a2 > 18 - a1)) with d_p4 | d_p4 <;> have p_p4 := d_p4 <;> simp only [decide_eq_true_eq, decide_eq_false_iff_not, beq_iff_eq, beq_eq_false_iff_ne, ne_eq] at p_p4 
  · simp (disch := first | omega | (simp only [List.length_append, List.length_cons, List.length_nil, List.length_map, List.length_take, List.length_drop] <;> omega) | assumption | decide | (simp only [List.length_append, List.length_cons, List.length_nil, List.length_map] at * <;> omega) | fail) only [go_sem, wrap_i64, wrap_u64, X_ingotlaw11_DeciAdds, c_ingotlaw11_DeciAdds, known_ok, d_p1, d_p2, d_p3, d_p4, Bool.not_true, Bool.not_false, Bool.true_and, Bool.false_and, Bool.and_true, Bool.and_false, Bool.true_or, Bool.false_or, Bool.or_true, Bool.or_false, true_and, and_true, and_self, Nat.reduceLeDiff, Nat.reduceLT, Nat.reduceAdd, Nat.zero_lt_succ, Nat.lt_add_one, Option.some.injEq, Loc.slot.injEq, Int.reduceAdd, Int.reduceSub, Int.reduceMul, Int.reduceNeg, beq_self_eq_true, List.length_cons, List.length_nil, decide_true, decide_false, Bool.and_self, bne_self_eq_false, ↓reduceIte, Nat.reduceEqDiff, reduceCtorEq, Bool.false_eq_true]
  obtain ⟨s, rfl⟩ : ∃ n : Nat, a1 = n := ⟨a1.toNat, by omega⟩
  obtain ⟨z, rfl⟩ : ∃ n : Nat, a2 = n := ⟨a2.toNat, by omega⟩
  have hv := inI_of w0
  have t1 := deci_Text_ans (v := a0) (s := s) hv (by omega)
  have hlen := textS_len (v := a0) (s := s) (by omega)
  have esz : (s : Int) + z = ((s + z : Nat) : Int) := by omega
  have r1 := deci_Rescale_ans (v := a0) (f := s) (t := s + z) hv (by omega) (by omega)
  have er : rescM a0 s (s + z) = mulM a0 ((10 ^ z : Nat) : Int) := by unfold rescM; rw [if_pos (by omega), show s + z - s = z by omega]
  have pa := parse_adds (v := a0) (s := s) (z := z) hv (by omega) _ rfl
  have hin := rescM_in (v := a0) (f := s) (t := s + z) hv
  -- what comes behind the words
  have fin : ∀ (T : List UInt8) (tl : List (Nat × V)), T.length ≤ 200 → parseM T (s + z) = (if inI (a0 * ((10 ^ z : Nat) : Int)) then (a0 * ((10 ^ z : Nat) : Int), 0) else (0, 4)) →
      go X_ingotlaw11_DeciAdds [.c (.seq r_ingotlaw11_DeciAdds_13 (.seq r_ingotlaw11_DeciAdds_14 (.seq r_ingotlaw11_DeciAdds_15 (.cond (.t 67) (.seq r_ingotlaw11_DeciAdds_16 .ret) (.seq r_ingotlaw11_DeciAdds_17 .ret)))))] ⟨(0, .d (.int .i64 (a0))) :: (1, .d (.int .i64 ((s : Int)))) :: (2, .d (.int .i64 ((z : Int)))) :: (7, .d (.str (T))) :: tl, []⟩ = some (.d (.bool (true)), []) := by
    intro T tl hT hp
    have p1 := deci_Parse_ans (t := T) (s := s + z) hT (by omega)
    rw [hp] at p1
    by_cases hi : inI (a0 * ((10 ^ z : Nat) : Int))
    · rw [if_pos hi] at p1
      have em : mulM a0 ((10 ^ z : Nat) : Int) = (a0 * ((10 ^ z : Nat) : Int), true) := if_pos hi
      have hb := rescM_back (v := a0) (f := s) (t := s + z) hv (by rw [er, em])
      rw [er, em] at r1 hb
      have r2 := deci_Compare_ans (a := a0) (b := a0 * ((10 ^ z : Nat) : Int)) (sa := s) (sb := s + z) hv hi (by omega) (by omega)
      have e4 : cmpM a0 s (a0 * ((10 ^ z : Nat) : Int)) (s + z) = 0 := by
        rcases hb with ⟨_, hk⟩ | hb
        · unfold cmpM
          simp only at hk
          rw [hk]
          unfold cmpZ
          rw [if_neg (by omega), if_neg (by omega)]
        · exact absurd (by omega) hb
      rw [e4] at r2
      simp only at r1 p1
      generalize a0 * ((10 ^ z : Nat) : Int) = y at *
      have e5 : (y == y) = true := by simp
      simp (disch := first | omega | (simp only [List.length_append, List.length_cons, List.length_nil, List.length_map, List.length_take, List.length_drop] <;> omega) | assumption | decide | (simp only [List.length_append, List.length_cons, List.length_nil, List.length_map] at * <;> omega) | fail) only [go_sem, wrap_i64, wrap_u64, X_ingotlaw11_DeciAdds, lk_st, esz, p1, r1, r2, e5, show ((0 : Int) == 0) = true by decide, Bool.not_true, Bool.not_false, Bool.true_and, Bool.false_and, Bool.and_true, Bool.and_false, Bool.true_or, Bool.false_or, Bool.or_true, Bool.or_false, true_and, and_true, and_self, Nat.reduceLeDiff, Nat.reduceLT, Nat.reduceAdd, Nat.zero_lt_succ, Nat.lt_add_one, Option.some.injEq, Loc.slot.injEq, Int.reduceAdd, Int.reduceSub, Int.reduceMul, Int.reduceNeg, beq_self_eq_true, List.length_cons, List.length_nil, decide_true, decide_false, Bool.and_self, bne_self_eq_false, ↓reduceIte, Nat.reduceEqDiff, reduceCtorEq, Bool.false_eq_true]
    · rw [if_neg hi] at p1
      have em : mulM a0 ((10 ^ z : Nat) : Int) = (0, false) := if_neg hi
      rw [er, em] at r1
      simp only at r1 p1
      simp (disch := first | omega | (simp only [List.length_append, List.length_cons, List.length_nil, List.length_map, List.length_take, List.length_drop] <;> omega) | assumption | decide | (simp only [List.length_append, List.length_cons, List.length_nil, List.length_map] at * <;> omega) | fail) only [go_sem, wrap_i64, wrap_u64, X_ingotlaw11_DeciAdds, lk_st, esz, p1, r1, show ((4 : Nat) : Int) = 4 by rfl, show ((4 : Int) == 4) = true by decide, show ((0 : Int) == 0) = true by decide, Bool.not_true, Bool.not_false, Bool.true_and, Bool.false_and, Bool.and_true, Bool.and_false, Bool.true_or, Bool.false_or, Bool.or_true, Bool.or_false, true_and, and_true, and_self, Nat.reduceLeDiff, Nat.reduceLT, Nat.reduceAdd, Nat.zero_lt_succ, Nat.lt_add_one, Option.some.injEq, Loc.slot.injEq, Int.reduceAdd, Int.reduceSub, Int.reduceMul, Int.reduceNeg, beq_self_eq_true, List.length_cons, List.length_nil, decide_true, decide_false, Bool.and_self, bne_self_eq_false, ↓reduceIte, Nat.reduceEqDiff, reduceCtorEq, Bool.false_eq_true]
  have hz := zer_len z
  have hlp := fun K t (h : t.length + z ≤ 1000) => loop a0 s z (by omega) K z 0 t (by omega) h
  rw [show ((0 : Nat) : Int) = 0 from rfl] at hlp
  rcases Bool.eq_false_or_eq_true (((s : Int) == 0)) with d_q1 | d_q1 <;> have p_q1 := d_q1 <;> simp only [decide_eq_true_eq, decide_eq_false_iff_not, beq_iff_eq, beq_eq_false_iff_ne, ne_eq] at p_q1 
  · rcases Bool.eq_false_or_eq_true (decide ((z : Int) > 0)) with d_q2 | d_q2 <;> have p_q2 := d_q2 <;> simp only [decide_eq_true_eq, decide_eq_false_iff_not, beq_iff_eq, beq_eq_false_iff_ne, ne_eq] at p_q2 
    · rw [if_pos (by omega)] at pa
      have hl := fun K => hlp K (textS a0 s ++ [46]) (by simp; omega)
      have f1 := fin (textS a0 s ++ [46] ++ zer z) [(8, .d (.int .i64 ((z : Int)))), (44, .d (.bool (false)))] (by simp; omega) pa
      simp (disch := first | omega | (simp only [List.length_append, List.length_cons, List.length_nil, List.length_map, List.length_take, List.length_drop] <;> omega) | assumption | decide | (simp only [List.length_append, List.length_cons, List.length_nil, List.length_map] at * <;> omega) | fail) only [go_sem, wrap_i64, wrap_u64, X_ingotlaw11_DeciAdds, c_ingotlaw11_DeciAdds, known_ok, d_p1, d_p2, d_p3, d_p4, t1, d_q1, d_q2, hl, Bool.not_true, Bool.not_false, Bool.true_and, Bool.false_and, Bool.and_true, Bool.and_false, Bool.true_or, Bool.false_or, Bool.or_true, Bool.or_false, true_and, and_true, and_self, Nat.reduceLeDiff, Nat.reduceLT, Nat.reduceAdd, Nat.zero_lt_succ, Nat.lt_add_one, Option.some.injEq, Loc.slot.injEq, Int.reduceAdd, Int.reduceSub, Int.reduceMul, Int.reduceNeg, beq_self_eq_true, List.length_cons, List.length_nil, decide_true, decide_false, Bool.and_self, bne_self_eq_false, ↓reduceIte, Nat.reduceEqDiff, reduceCtorEq, Bool.false_eq_true]
      simp (disch := first | omega | (simp only [List.length_append, List.length_cons, List.length_nil, List.length_map, List.length_take, List.length_drop] <;> omega) | assumption | decide | (simp only [List.length_append, List.length_cons, List.length_nil, List.length_map] at * <;> omega) | fail) only [go_sem, wrap_i64, wrap_u64, X_ingotlaw11_DeciAdds, Bool.not_true, Bool.not_false, Bool.true_and, Bool.false_and, Bool.and_true, Bool.and_false, Bool.true_or, Bool.false_or, Bool.or_true, Bool.or_false, true_and, and_true, and_self, Nat.reduceLeDiff, Nat.reduceLT, Nat.reduceAdd, Nat.zero_lt_succ, Nat.lt_add_one, Option.some.injEq, Loc.slot.injEq, Int.reduceAdd, Int.reduceSub, Int.reduceMul, Int.reduceNeg, beq_self_eq_true, List.length_cons, List.length_nil, decide_true, decide_false, Bool.and_self, bne_self_eq_false, ↓reduceIte, Nat.reduceEqDiff, reduceCtorEq, Bool.false_eq_true] at f1
      exact f1
    · rw [if_neg (by omega), List.append_nil] at pa
      have hl := fun K => hlp K (textS a0 s) (by omega)
      have f1 := fin (textS a0 s ++ zer z) [(8, .d (.int .i64 ((z : Int)))), (44, .d (.bool (false)))] (by simp; omega) pa
      simp (disch := first | omega | (simp only [List.length_append, List.length_cons, List.length_nil, List.length_map, List.length_take, List.length_drop] <;> omega) | assumption | decide | (simp only [List.length_append, List.length_cons, List.length_nil, List.length_map] at * <;> omega) | fail) only [go_sem, wrap_i64, wrap_u64, X_ingotlaw11_DeciAdds, c_ingotlaw11_DeciAdds, known_ok, d_p1, d_p2, d_p3, d_p4, t1, d_q1, d_q2, hl, Bool.not_true, Bool.not_false, Bool.true_and, Bool.false_and, Bool.and_true, Bool.and_false, Bool.true_or, Bool.false_or, Bool.or_true, Bool.or_false, true_and, and_true, and_self, Nat.reduceLeDiff, Nat.reduceLT, Nat.reduceAdd, Nat.zero_lt_succ, Nat.lt_add_one, Option.some.injEq, Loc.slot.injEq, Int.reduceAdd, Int.reduceSub, Int.reduceMul, Int.reduceNeg, beq_self_eq_true, List.length_cons, List.length_nil, decide_true, decide_false, Bool.and_self, bne_self_eq_false, ↓reduceIte, Nat.reduceEqDiff, reduceCtorEq, Bool.false_eq_true]
      simp (disch := first | omega | (simp only [List.length_append, List.length_cons, List.length_nil, List.length_map, List.length_take, List.length_drop] <;> omega) | assumption | decide | (simp only [List.length_append, List.length_cons, List.length_nil, List.length_map] at * <;> omega) | fail) only [go_sem, wrap_i64, wrap_u64, X_ingotlaw11_DeciAdds, Bool.not_true, Bool.not_false, Bool.true_and, Bool.false_and, Bool.and_true, Bool.and_false, Bool.true_or, Bool.false_or, Bool.or_true, Bool.or_false, true_and, and_true, and_self, Nat.reduceLeDiff, Nat.reduceLT, Nat.reduceAdd, Nat.zero_lt_succ, Nat.lt_add_one, Option.some.injEq, Loc.slot.injEq, Int.reduceAdd, Int.reduceSub, Int.reduceMul, Int.reduceNeg, beq_self_eq_true, List.length_cons, List.length_nil, decide_true, decide_false, Bool.and_self, bne_self_eq_false, ↓reduceIte, Nat.reduceEqDiff, reduceCtorEq, Bool.false_eq_true] at f1
      exact f1
  · rw [if_neg (by omega), List.append_nil] at pa
    have hl := fun K => hlp K (textS a0 s) (by omega)
    have f1 := fin (textS a0 s ++ zer z) [(8, .d (.int .i64 ((z : Int)))), (44, .d (.bool (false)))] (by simp; omega) pa
    simp (disch := first | omega | (simp only [List.length_append, List.length_cons, List.length_nil, List.length_map, List.length_take, List.length_drop] <;> omega) | assumption | decide | (simp only [List.length_append, List.length_cons, List.length_nil, List.length_map] at * <;> omega) | fail) only [go_sem, wrap_i64, wrap_u64, X_ingotlaw11_DeciAdds, c_ingotlaw11_DeciAdds, known_ok, d_p1, d_p2, d_p3, d_p4, t1, d_q1, hl, Bool.not_true, Bool.not_false, Bool.true_and, Bool.false_and, Bool.and_true, Bool.and_false, Bool.true_or, Bool.false_or, Bool.or_true, Bool.or_false, true_and, and_true, and_self, Nat.reduceLeDiff, Nat.reduceLT, Nat.reduceAdd, Nat.zero_lt_succ, Nat.lt_add_one, Option.some.injEq, Loc.slot.injEq, Int.reduceAdd, Int.reduceSub, Int.reduceMul, Int.reduceNeg, beq_self_eq_true, List.length_cons, List.length_nil, decide_true, decide_false, Bool.and_self, bne_self_eq_false, ↓reduceIte, Nat.reduceEqDiff, reduceCtorEq, Bool.false_eq_true]
    simp (disch := first | omega | (simp only [List.length_append, List.length_cons, List.length_nil, List.length_map, List.length_take, List.length_drop] <;> omega) | assumption | decide | (simp only [List.length_append, List.length_cons, List.length_nil, List.length_map] at * <;> omega) | fail) only [go_sem, wrap_i64, wrap_u64, X_ingotlaw11_DeciAdds, Bool.not_true, Bool.not_false, Bool.true_and, Bool.false_and, Bool.and_true, Bool.and_false, Bool.true_or, Bool.false_or, Bool.or_true, Bool.or_false, true_and, and_true, and_self, Nat.reduceLeDiff, Nat.reduceLT, Nat.reduceAdd, Nat.zero_lt_succ, Nat.lt_add_one, Option.some.injEq, Loc.slot.injEq, Int.reduceAdd, Int.reduceSub, Int.reduceMul, Int.reduceNeg, beq_self_eq_true, List.length_cons, List.length_nil, decide_true, decide_false, Bool.and_self, bne_self_eq_false, ↓reduceIte, Nat.reduceEqDiff, reduceCtorEq, Bool.false_eq_true] at f1
    exact f1
end Go.Proofs.YteckebocflnkdaaDoor.deciAdds
