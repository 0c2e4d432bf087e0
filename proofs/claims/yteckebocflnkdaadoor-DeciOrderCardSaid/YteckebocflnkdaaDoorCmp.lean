/- The document's order of decimals, digit by digit. -/
import Derived.Test.YteckebocflnkdaaDoorPrsB
namespace Go.Proofs.YteckebocflnkdaaDoor
open Go Go.Ev
set_option linter.unusedVariables false
set_option linter.unusedSimpArgs false
set_option maxHeartbeats 4000000

theorem dval_lt : ∀ (l : List UInt8), l.all digB = true → dval l < 10 ^ l.length
  | [], _ => by simp [dval]
  | c :: l, h => by
    simp only [List.all_cons, Bool.and_eq_true] at h
    have hc := h.1
    unfold digB at hc
    simp only [Bool.and_eq_true, decide_eq_true_eq] at hc
    have ih := dval_lt l h.2
    simp only [dval, List.length_cons, Nat.pow_succ]
    have : (c.toNat - 48) * 10 ^ l.length ≤ 9 * 10 ^ l.length := Nat.mul_le_mul_right _ (by omega)
    omega
/-- words of digits, as many, stand as their numbers do -/
theorem less_dig : ∀ (x y : List UInt8), x.length = y.length → x.all digB = true → y.all digB = true →
    Go.Op.bytesLess x y = decide (dval x < dval y) ∧ (x == y) = decide (dval x = dval y)
  | [], [], _, _, _ => ⟨rfl, rfl⟩
  | [], _ :: _, h, _, _ => by simp at h
  | _ :: _, [], h, _, _ => by simp at h
  | a :: x, b :: y, h, hx, hy => by
    simp only [List.all_cons, Bool.and_eq_true] at hx hy
    have hl : x.length = y.length := by simpa using h
    obtain ⟨i1, i2⟩ := less_dig x y hl hx.2 hy.2
    have l1 := dval_lt x hx.2
    have l2 := dval_lt y hy.2
    rw [hl] at l1
    have ha := hx.1
    have hb := hy.1
    unfold digB at ha hb
    simp only [Bool.and_eq_true, decide_eq_true_eq] at ha hb
    have hab : (a < b) ↔ a.toNat < b.toNat := UInt8.lt_iff_toNat_lt
    have hae : (a = b) ↔ a.toNat = b.toNat := UInt8.toNat_inj.symm
    simp only [Go.Op.bytesLess, dval, hl]
    generalize 10 ^ y.length = T at *
    rcases Nat.lt_trichotomy a.toNat b.toNat with c | c | c
    · have hm : (a.toNat - 48 + 1) * T ≤ (b.toNat - 48) * T := Nat.mul_le_mul_right _ (by omega)
      rw [Nat.add_mul] at hm
      refine ⟨?_, ?_⟩
      · rw [decide_eq_true (hab.2 c), Bool.true_or, decide_eq_true]
        omega
      · have : (a :: x == b :: y) = false := by
          simp only [beq_eq_false_iff_ne, ne_eq, List.cons.injEq, not_and]
          exact fun e => absurd (hae.1 e) (by omega)
        rw [this, eq_comm, decide_eq_false]
        omega
    · have e : a = b := hae.2 c
      subst e
      refine ⟨?_, ?_⟩
      · have : decide (a < a) = false := by simp
        rw [this, Bool.false_or, beq_self_eq_true, Bool.true_and, i1]
        congr 1
        apply propext
        constructor <;> intro <;> omega
      · have : (a :: x == a :: y) = (x == y) := by simp
        rw [this, i2]
        congr 1
        apply propext
        constructor <;> intro <;> omega
    · have hm : (b.toNat - 48 + 1) * T ≤ (a.toNat - 48) * T := Nat.mul_le_mul_right _ (by omega)
      rw [Nat.add_mul] at hm
      have hne : a ≠ b := fun e => absurd (hae.1 e) (by omega)
      refine ⟨?_, ?_⟩
      · have e1 : decide (a < b) = false := by
          rw [decide_eq_false]
          exact fun h => absurd (hab.1 h) (by omega)
        have e2 : (a == b) = false := by simpa using hne
        rw [e1, e2, Bool.false_and, Bool.or_false, eq_comm, decide_eq_false]
        omega
      · have : (a :: x == b :: y) = false := by simp [hne]
        rw [this, eq_comm, decide_eq_false]
        omega
theorem zer_snoc (x : List UInt8) (k : Nat) : (x ++ [48]) ++ zer k = x ++ zer (k + 1) := by
  rw [List.append_assoc]
  rfl
theorem zer_cons (x : List UInt8) (k : Nat) : zer k ++ 48 :: x = zer (k + 1) ++ x := by
  unfold zer
  rw [List.replicate_succ']
  simp
theorem cmp_loop14 (sb sg : Int) (y : List UInt8) (K : List Kf) : ∀ (k i : Nat) (x : List UInt8), i + k = 18 → x.length + k ≤ 100 →
    go X_ingotref11_Compare (.c (.loop b_ingotref11_Compare_14) :: .b 0 :: K) ⟨[(3, .d (.int .i64 (sb))), (9, .d (.int .i64 (sg))), (10, .d (.str (x))), (11, .d (.str (y))), (12, .d (.int .i64 ((i : Int))))], []⟩ =
      go X_ingotref11_Compare K ⟨[(3, .d (.int .i64 (sb))), (9, .d (.int .i64 (sg))), (10, .d (.str (x ++ zer k))), (11, .d (.str (y))), (12, .d (.int .i64 (18))), (36, .d (.bool (false)))], []⟩
  | 0, i, x, h, hx => by
    obtain rfl : i = 18 := by omega
    rw [go_loop, show zer 0 = [] from rfl, List.append_nil]
    simp (disch := first | omega | (simp only [List.length_append, List.length_cons, List.length_nil, List.length_map, List.length_take, List.length_drop] <;> omega) | assumption | decide | (simp only [List.length_append, List.length_cons, List.length_nil, List.length_map] at * <;> omega) | fail) only [go_sem, wrap_i64, wrap_u64, X_ingotref11_Compare, show ((18 : Nat) : Int) = 18 by rfl, show decide ((18 : Int) < 18) = false by decide, Bool.not_true, Bool.not_false, Bool.true_and, Bool.false_and, Bool.and_true, Bool.and_false, Bool.true_or, Bool.false_or, Bool.or_true, Bool.or_false, true_and, and_true, and_self, Nat.reduceLeDiff, Nat.reduceLT, Nat.reduceAdd, Nat.zero_lt_succ, Nat.lt_add_one, Option.some.injEq, Loc.slot.injEq, Int.reduceAdd, Int.reduceSub, Int.reduceMul, Int.reduceNeg, beq_self_eq_true, List.length_cons, List.length_nil, decide_true, decide_false, Bool.and_self, bne_self_eq_false, ↓reduceIte, Nat.reduceEqDiff, reduceCtorEq, Bool.false_eq_true]
  | k + 1, i, x, h, hx => by
    have d_a : decide ((i : Int) < 18) = true := by simp <;> omega
    have ih := cmp_loop14 sb sg y K k (i + 1) (x ++ [48]) (by omega) (by simp; omega)
    rw [zer_snoc, show (((i + 1 : Nat)) : Int) = (i : Int) + 1 by omega] at ih
    rw [go_loop]
    simp (disch := first | omega | (simp only [List.length_append, List.length_cons, List.length_nil, List.length_map, List.length_take, List.length_drop] <;> omega) | assumption | decide | (simp only [List.length_append, List.length_cons, List.length_nil, List.length_map] at * <;> omega) | fail) only [go_sem, wrap_i64, wrap_u64, X_ingotref11_Compare, d_a, Bool.not_true, Bool.not_false, Bool.true_and, Bool.false_and, Bool.and_true, Bool.and_false, Bool.true_or, Bool.false_or, Bool.or_true, Bool.or_false, true_and, and_true, and_self, Nat.reduceLeDiff, Nat.reduceLT, Nat.reduceAdd, Nat.zero_lt_succ, Nat.lt_add_one, Option.some.injEq, Loc.slot.injEq, Int.reduceAdd, Int.reduceSub, Int.reduceMul, Int.reduceNeg, beq_self_eq_true, List.length_cons, List.length_nil, decide_true, decide_false, Bool.and_self, bne_self_eq_false, ↓reduceIte, Nat.reduceEqDiff, reduceCtorEq, Bool.false_eq_true]
    exact ih
theorem cmp_loop19 (sg : Int) (x : List UInt8) (K : List Kf) : ∀ (k i : Nat) (y : List UInt8), i + k = 18 → y.length + k ≤ 100 →
    go X_ingotref11_Compare (.c (.loop b_ingotref11_Compare_19) :: .b 2 :: K) ⟨[(9, .d (.int .i64 (sg))), (10, .d (.str (x))), (11, .d (.str (y))), (13, .d (.int .i64 ((i : Int))))], []⟩ =
      go X_ingotref11_Compare K ⟨[(9, .d (.int .i64 (sg))), (10, .d (.str (x))), (11, .d (.str (y ++ zer k))), (13, .d (.int .i64 (18))), (43, .d (.bool (false)))], []⟩
  | 0, i, y, h, hx => by
    obtain rfl : i = 18 := by omega
    rw [go_loop, show zer 0 = [] from rfl, List.append_nil]
    simp (disch := first | omega | (simp only [List.length_append, List.length_cons, List.length_nil, List.length_map, List.length_take, List.length_drop] <;> omega) | assumption | decide | (simp only [List.length_append, List.length_cons, List.length_nil, List.length_map] at * <;> omega) | fail) only [go_sem, wrap_i64, wrap_u64, X_ingotref11_Compare, show ((18 : Nat) : Int) = 18 by rfl, show decide ((18 : Int) < 18) = false by decide, Bool.not_true, Bool.not_false, Bool.true_and, Bool.false_and, Bool.and_true, Bool.and_false, Bool.true_or, Bool.false_or, Bool.or_true, Bool.or_false, true_and, and_true, and_self, Nat.reduceLeDiff, Nat.reduceLT, Nat.reduceAdd, Nat.zero_lt_succ, Nat.lt_add_one, Option.some.injEq, Loc.slot.injEq, Int.reduceAdd, Int.reduceSub, Int.reduceMul, Int.reduceNeg, beq_self_eq_true, List.length_cons, List.length_nil, decide_true, decide_false, Bool.and_self, bne_self_eq_false, ↓reduceIte, Nat.reduceEqDiff, reduceCtorEq, Bool.false_eq_true]
  | k + 1, i, y, h, hx => by
    have d_a : decide ((i : Int) < 18) = true := by simp <;> omega
    have ih := cmp_loop19 sg x K k (i + 1) (y ++ [48]) (by omega) (by simp; omega)
    rw [zer_snoc, show (((i + 1 : Nat)) : Int) = (i : Int) + 1 by omega] at ih
    rw [go_loop]
    simp (disch := first | omega | (simp only [List.length_append, List.length_cons, List.length_nil, List.length_map, List.length_take, List.length_drop] <;> omega) | assumption | decide | (simp only [List.length_append, List.length_cons, List.length_nil, List.length_map] at * <;> omega) | fail) only [go_sem, wrap_i64, wrap_u64, X_ingotref11_Compare, d_a, Bool.not_true, Bool.not_false, Bool.true_and, Bool.false_and, Bool.and_true, Bool.and_false, Bool.true_or, Bool.false_or, Bool.or_true, Bool.or_false, true_and, and_true, and_self, Nat.reduceLeDiff, Nat.reduceLT, Nat.reduceAdd, Nat.zero_lt_succ, Nat.lt_add_one, Option.some.injEq, Loc.slot.injEq, Int.reduceAdd, Int.reduceSub, Int.reduceMul, Int.reduceNeg, beq_self_eq_true, List.length_cons, List.length_nil, decide_true, decide_false, Bool.and_self, bne_self_eq_false, ↓reduceIte, Nat.reduceEqDiff, reduceCtorEq, Bool.false_eq_true]
    exact ih
theorem cmp_loop22 (sg : Int) (y : List UInt8) (K : List Kf) : ∀ (k : Nat) (x : List UInt8) (tl : List (Nat × V)), y.length - x.length = k → y.length ≤ 100 → x.length ≤ 100 →
    go X_ingotref11_Compare (.c (.loop b_ingotref11_Compare_22) :: .b 4 :: K) ⟨(9, .d (.int .i64 (sg))) :: (10, .d (.str (x))) :: (11, .d (.str (y))) :: tl, []⟩ =
      go X_ingotref11_Compare K ⟨[(9, .d (.int .i64 (sg))), (10, .d (.str (zer k ++ x))), (11, .d (.str (y))), (52, .d (.bool (false)))], []⟩
  | 0, x, tl, h, hy, hx => by
    have d_a : decide ((x.length : Int) < y.length) = false := by simp <;> omega
    rw [go_loop, show zer 0 = [] from rfl, List.nil_append]
    simp (disch := first | omega | (simp only [List.length_append, List.length_cons, List.length_nil, List.length_map, List.length_take, List.length_drop] <;> omega) | assumption | decide | (simp only [List.length_append, List.length_cons, List.length_nil, List.length_map] at * <;> omega) | fail) only [go_sem, wrap_i64, wrap_u64, X_ingotref11_Compare, lk_st, d_a, Bool.not_true, Bool.not_false, Bool.true_and, Bool.false_and, Bool.and_true, Bool.and_false, Bool.true_or, Bool.false_or, Bool.or_true, Bool.or_false, true_and, and_true, and_self, Nat.reduceLeDiff, Nat.reduceLT, Nat.reduceAdd, Nat.zero_lt_succ, Nat.lt_add_one, Option.some.injEq, Loc.slot.injEq, Int.reduceAdd, Int.reduceSub, Int.reduceMul, Int.reduceNeg, beq_self_eq_true, List.length_cons, List.length_nil, decide_true, decide_false, Bool.and_self, bne_self_eq_false, ↓reduceIte, Nat.reduceEqDiff, reduceCtorEq, Bool.false_eq_true]
  | k + 1, x, tl, h, hy, hx => by
    have d_a : decide ((x.length : Int) < y.length) = true := by simp <;> omega
    have ih := cmp_loop22 sg y K k (48 :: x) [] (by simp only [List.length_cons]; omega) hy (by simp only [List.length_cons]; omega)
    rw [zer_cons] at ih
    rw [go_loop]
    simp (disch := first | omega | (simp only [List.length_append, List.length_cons, List.length_nil, List.length_map, List.length_take, List.length_drop] <;> omega) | assumption | decide | (simp only [List.length_append, List.length_cons, List.length_nil, List.length_map] at * <;> omega) | fail) only [go_sem, wrap_i64, wrap_u64, X_ingotref11_Compare, lk_st, d_a, Bool.not_true, Bool.not_false, Bool.true_and, Bool.false_and, Bool.and_true, Bool.and_false, Bool.true_or, Bool.false_or, Bool.or_true, Bool.or_false, true_and, and_true, and_self, Nat.reduceLeDiff, Nat.reduceLT, Nat.reduceAdd, Nat.zero_lt_succ, Nat.lt_add_one, Option.some.injEq, Loc.slot.injEq, Int.reduceAdd, Int.reduceSub, Int.reduceMul, Int.reduceNeg, beq_self_eq_true, List.length_cons, List.length_nil, decide_true, decide_false, Bool.and_self, bne_self_eq_false, ↓reduceIte, Nat.reduceEqDiff, reduceCtorEq, Bool.false_eq_true]
    exact ih
theorem cmp_loop25 (sg : Int) (x : List UInt8) (K : List Kf) : ∀ (k : Nat) (y : List UInt8) (tl : List (Nat × V)), x.length - y.length = k → y.length ≤ 100 → x.length ≤ 100 →
    go X_ingotref11_Compare (.c (.loop b_ingotref11_Compare_25) :: .b 6 :: K) ⟨(9, .d (.int .i64 (sg))) :: (10, .d (.str (x))) :: (11, .d (.str (y))) :: tl, []⟩ =
      go X_ingotref11_Compare K ⟨[(9, .d (.int .i64 (sg))), (10, .d (.str (x))), (11, .d (.str (zer k ++ y))), (59, .d (.bool (false)))], []⟩
  | 0, y, tl, h, hy, hx => by
    have d_a : decide ((y.length : Int) < x.length) = false := by simp <;> omega
    rw [go_loop, show zer 0 = [] from rfl, List.nil_append]
    simp (disch := first | omega | (simp only [List.length_append, List.length_cons, List.length_nil, List.length_map, List.length_take, List.length_drop] <;> omega) | assumption | decide | (simp only [List.length_append, List.length_cons, List.length_nil, List.length_map] at * <;> omega) | fail) only [go_sem, wrap_i64, wrap_u64, X_ingotref11_Compare, lk_st, d_a, Bool.not_true, Bool.not_false, Bool.true_and, Bool.false_and, Bool.and_true, Bool.and_false, Bool.true_or, Bool.false_or, Bool.or_true, Bool.or_false, true_and, and_true, and_self, Nat.reduceLeDiff, Nat.reduceLT, Nat.reduceAdd, Nat.zero_lt_succ, Nat.lt_add_one, Option.some.injEq, Loc.slot.injEq, Int.reduceAdd, Int.reduceSub, Int.reduceMul, Int.reduceNeg, beq_self_eq_true, List.length_cons, List.length_nil, decide_true, decide_false, Bool.and_self, bne_self_eq_false, ↓reduceIte, Nat.reduceEqDiff, reduceCtorEq, Bool.false_eq_true]
  | k + 1, y, tl, h, hy, hx => by
    have d_a : decide ((y.length : Int) < x.length) = true := by simp <;> omega
    have ih := cmp_loop25 sg x K k (48 :: y) [] (by simp only [List.length_cons]; omega) (by simp only [List.length_cons]; omega) hx
    rw [zer_cons] at ih
    rw [go_loop]
    simp (disch := first | omega | (simp only [List.length_append, List.length_cons, List.length_nil, List.length_map, List.length_take, List.length_drop] <;> omega) | assumption | decide | (simp only [List.length_append, List.length_cons, List.length_nil, List.length_map] at * <;> omega) | fail) only [go_sem, wrap_i64, wrap_u64, X_ingotref11_Compare, lk_st, d_a, Bool.not_true, Bool.not_false, Bool.true_and, Bool.false_and, Bool.and_true, Bool.and_false, Bool.true_or, Bool.false_or, Bool.or_true, Bool.or_false, true_and, and_true, and_self, Nat.reduceLeDiff, Nat.reduceLT, Nat.reduceAdd, Nat.zero_lt_succ, Nat.lt_add_one, Option.some.injEq, Loc.slot.injEq, Int.reduceAdd, Int.reduceSub, Int.reduceMul, Int.reduceNeg, beq_self_eq_true, List.length_cons, List.length_nil, decide_true, decide_false, Bool.and_self, bne_self_eq_false, ↓reduceIte, Nat.reduceEqDiff, reduceCtorEq, Bool.false_eq_true]
    exact ih
theorem ref11_Compare_ans {a b : Int} {sa sb : Nat} (ha : inI a) (hb : inI b) (h1 : sa ≤ 18) (h2 : sb ≤ 18) : evL cfg n_ingotref11_Compare 0 [.d (.int .i64 (a)), .d (.int .i64 ((sa : Int))), .d (.int .i64 (b)), .d (.int .i64 ((sb : Int)))] [] = some (.d (.int .i64 (cmpM a sa b sb)), []) := by
  rw [o_ingotref11_Compare]
  have z1 := ref11_size_ans ha
  have z2 := ref11_size_ans hb
  have f1 := ref11_digits_ans (u := a.natAbs) (by unfold inI at ha; omega)
  have f2 := ref11_digits_ans (u := b.natAbs) (by unfold inI at hb; omega)
  have n1 := decF_len20 a.natAbs
  have n2 := decF_len20 b.natAbs
  have v1 := decF_val 20 a.natAbs (by unfold inI at ha; omega)
  have v2 := decF_val 20 b.natAbs (by unfold inI at hb; omega)
  have g1 := decF_dig 20 a.natAbs
  have g2 := decF_dig 20 b.natAbs
  have k1 : ∀ {x : Int} {s : Nat}, 0 ≤ x → keyZ x s = ((x.natAbs * 10 ^ (18 - s) : Nat) : Int) := fun {x s} h => by unfold keyZ; rw [Int.natCast_mul]; congr 1; omega
  have k2 : ∀ {x : Int} {s : Nat}, x < 0 → keyZ x s = -((x.natAbs * 10 ^ (18 - s) : Nat) : Int) := fun {x s} h => by unfold keyZ; rw [Int.natCast_mul, ← Int.neg_mul]; congr 1; omega
  have kp : ∀ {x : Int} {s : Nat}, x < 0 → 0 < x.natAbs * 10 ^ (18 - s) := fun {x s} h => Nat.mul_pos (by omega) (ten_pos _)
  have main : ∀ (sg : Int) (tl : List (Nat × V)), sg = 1 ∨ sg = -1 →
      go X_ingotref11_Compare [.c r_ingotref11_Compare_8, .c (.seq r_ingotref11_Compare_9 (.seq (.seq r_ingotref11_Compare_10 (.block 0 (.loop b_ingotref11_Compare_14))) (.seq (.seq r_ingotref11_Compare_15 (.block 2 (.loop b_ingotref11_Compare_19))) (.seq (.block 4 (.loop b_ingotref11_Compare_22)) (.seq (.block 6 (.loop b_ingotref11_Compare_25)) (.seq (.block 8 (.seq r_ingotref11_Compare_26 (.cond (.t 62) (.seq r_ingotref11_Compare_27 .ret) (.seq r_ingotref11_Compare_28 (.cond (.t 68) (.seq r_ingotref11_Compare_29 .ret) .skip))))) (.seq r_ingotref11_Compare_30 .ret)))))))]
        ⟨(0, .d (.int .i64 (a))) :: (1, .d (.int .i64 ((sa : Int)))) :: (2, .d (.int .i64 (b))) :: (3, .d (.int .i64 ((sb : Int)))) :: (9, .d (.int .i64 (sg))) :: tl, []⟩ = some (.d (.int .i64 (sg * cmpZ ((a.natAbs * 10 ^ (18 - sa) : Nat) : Int) ((b.natAbs * 10 ^ (18 - sb) : Nat) : Int))), []) := by
    intro sg tl hsg
    generalize decF 20 a.natAbs = x at *
    generalize decF 20 b.natAbs = y at *
    have q1 := fun K => cmp_loop14 (sb : Int) sg y K (18 - sa) sa x (by omega) (by omega)
    have q2 := fun K => cmp_loop19 sg (x ++ zer (18 - sa)) K (18 - sb) sb y (by omega) (by omega)
    have e1 : dval (x ++ zer (18 - sa)) = a.natAbs * 10 ^ (18 - sa) := by rw [dval_append, dval_zer, zer_len, v1]; rfl
    have e2 : dval (y ++ zer (18 - sb)) = b.natAbs * 10 ^ (18 - sb) := by rw [dval_append, dval_zer, zer_len, v2]; rfl
    have l1 : (x ++ zer (18 - sa)).length ≤ 40 := by rw [List.length_append, zer_len]; omega
    have l2 : (y ++ zer (18 - sb)).length ≤ 40 := by rw [List.length_append, zer_len]; omega
    have a1 : (x ++ zer (18 - sa)).all digB = true := by rw [List.all_append, g1, dig_zer]; rfl
    have a2 : (y ++ zer (18 - sb)).all digB = true := by rw [List.all_append, g2, dig_zer]; rfl
    rw [← e1, ← e2]
    generalize x ++ zer (18 - sa) = X at *
    generalize y ++ zer (18 - sb) = Y at *
    have q3 := fun K tl => cmp_loop22 sg Y K (Y.length - X.length) X tl rfl (by omega) (by omega)
    have e3 : dval (zer (Y.length - X.length) ++ X) = dval X := by rw [dval_append, dval_zer]; simp
    have l3 : (zer (Y.length - X.length) ++ X).length ≤ 40 := by rw [List.length_append, zer_len]; omega
    have l3' : Y.length ≤ (zer (Y.length - X.length) ++ X).length := by rw [List.length_append, zer_len]; omega
    have a3 : (zer (Y.length - X.length) ++ X).all digB = true := by rw [List.all_append, a1, dig_zer]; rfl
    rw [← e3]
    generalize zer (Y.length - X.length) ++ X = Z at *
    have q4 := fun K tl => cmp_loop25 sg Z K (Z.length - Y.length) Y tl rfl (by omega) (by omega)
    have e4 : dval (zer (Z.length - Y.length) ++ Y) = dval Y := by rw [dval_append, dval_zer]; simp
    have l4 : Z.length = (zer (Z.length - Y.length) ++ Y).length := by rw [List.length_append, zer_len]; omega
    have a4 : (zer (Z.length - Y.length) ++ Y).all digB = true := by rw [List.all_append, a2, dig_zer]; rfl
    rw [← e4]
    generalize zer (Z.length - Y.length) ++ Y = W at *
    obtain ⟨w1, w2⟩ := less_dig Z W l4 a3 a4
    rcases Nat.lt_trichotomy (dval Z) (dval W) with c | c | c
    · rw [decide_eq_true c] at w1
      rw [show cmpZ ((dval Z : Nat) : Int) ((dval W : Nat) : Int) = -1 by unfold cmpZ; rw [if_pos (by omega)], show sg * -1 = 0 - sg by omega]
      rcases hsg with rfl | rfl <;> simp (disch := first | omega | (simp only [List.length_append, List.length_cons, List.length_nil, List.length_map, List.length_take, List.length_drop] <;> omega) | assumption | decide | (simp only [List.length_append, List.length_cons, List.length_nil, List.length_map] at * <;> omega) | fail) only [go_sem, wrap_i64, wrap_u64, X_ingotref11_Compare, lk_st, z1, z2, f1, f2, q1, q2, q3, q4, w1, Bool.not_true, Bool.not_false, Bool.true_and, Bool.false_and, Bool.and_true, Bool.and_false, Bool.true_or, Bool.false_or, Bool.or_true, Bool.or_false, true_and, and_true, and_self, Nat.reduceLeDiff, Nat.reduceLT, Nat.reduceAdd, Nat.zero_lt_succ, Nat.lt_add_one, Option.some.injEq, Loc.slot.injEq, Int.reduceAdd, Int.reduceSub, Int.reduceMul, Int.reduceNeg, beq_self_eq_true, List.length_cons, List.length_nil, decide_true, decide_false, Bool.and_self, bne_self_eq_false, ↓reduceIte, Nat.reduceEqDiff, reduceCtorEq, Bool.false_eq_true] <;> rfl
    · rw [decide_eq_false (by omega)] at w1
      rw [decide_eq_true c] at w2
      rw [show cmpZ ((dval Z : Nat) : Int) ((dval W : Nat) : Int) = 0 by unfold cmpZ; rw [if_neg (by omega), if_neg (by omega)], Int.mul_zero]
      rcases hsg with rfl | rfl <;> simp (disch := first | omega | (simp only [List.length_append, List.length_cons, List.length_nil, List.length_map, List.length_take, List.length_drop] <;> omega) | assumption | decide | (simp only [List.length_append, List.length_cons, List.length_nil, List.length_map] at * <;> omega) | fail) only [go_sem, wrap_i64, wrap_u64, X_ingotref11_Compare, lk_st, z1, z2, f1, f2, q1, q2, q3, q4, w1, w2, Bool.not_true, Bool.not_false, Bool.true_and, Bool.false_and, Bool.and_true, Bool.and_false, Bool.true_or, Bool.false_or, Bool.or_true, Bool.or_false, true_and, and_true, and_self, Nat.reduceLeDiff, Nat.reduceLT, Nat.reduceAdd, Nat.zero_lt_succ, Nat.lt_add_one, Option.some.injEq, Loc.slot.injEq, Int.reduceAdd, Int.reduceSub, Int.reduceMul, Int.reduceNeg, beq_self_eq_true, List.length_cons, List.length_nil, decide_true, decide_false, Bool.and_self, bne_self_eq_false, ↓reduceIte, Nat.reduceEqDiff, reduceCtorEq, Bool.false_eq_true]
    · rw [decide_eq_false (by omega)] at w1
      rw [decide_eq_false (by omega)] at w2
      rw [show cmpZ ((dval Z : Nat) : Int) ((dval W : Nat) : Int) = 1 by unfold cmpZ; rw [if_neg (by omega), if_pos (by omega)], Int.mul_one]
      rcases hsg with rfl | rfl <;> simp (disch := first | omega | (simp only [List.length_append, List.length_cons, List.length_nil, List.length_map, List.length_take, List.length_drop] <;> omega) | assumption | decide | (simp only [List.length_append, List.length_cons, List.length_nil, List.length_map] at * <;> omega) | fail) only [go_sem, wrap_i64, wrap_u64, X_ingotref11_Compare, lk_st, z1, z2, f1, f2, q1, q2, q3, q4, w1, w2, Bool.not_true, Bool.not_false, Bool.true_and, Bool.false_and, Bool.and_true, Bool.and_false, Bool.true_or, Bool.false_or, Bool.or_true, Bool.or_false, true_and, and_true, and_self, Nat.reduceLeDiff, Nat.reduceLT, Nat.reduceAdd, Nat.zero_lt_succ, Nat.lt_add_one, Option.some.injEq, Loc.slot.injEq, Int.reduceAdd, Int.reduceSub, Int.reduceMul, Int.reduceNeg, beq_self_eq_true, List.length_cons, List.length_nil, decide_true, decide_false, Bool.and_self, bne_self_eq_false, ↓reduceIte, Nat.reduceEqDiff, reduceCtorEq, Bool.false_eq_true]
  unfold cmpM
  unfold inI at ha hb
  rcases Bool.eq_false_or_eq_true (decide (a < 0)) with d_p | d_p <;> have p_p := d_p <;> simp only [decide_eq_true_eq, decide_eq_false_iff_not, beq_iff_eq, beq_eq_false_iff_ne, ne_eq] at p_p <;> rcases Bool.eq_false_or_eq_true (decide (b < 0)) with d_q | d_q <;> have p_q := d_q <;> simp only [decide_eq_true_eq, decide_eq_false_iff_not, beq_iff_eq, beq_eq_false_iff_ne, ne_eq] at p_q 
  · have d_p2 : decide (a ≥ 0) = false := by simp <;> omega
    have d_q2 : decide (b ≥ 0) = false := by simp <;> omega
    have h := main (-1) [] (.inr rfl)
    rw [k2 p_p, k2 p_q, show cmpZ (-((a.natAbs * 10 ^ (18 - sa) : Nat) : Int)) (-((b.natAbs * 10 ^ (18 - sb) : Nat) : Int)) = -1 * cmpZ ((a.natAbs * 10 ^ (18 - sa) : Nat) : Int) ((b.natAbs * 10 ^ (18 - sb) : Nat) : Int) by
      generalize a.natAbs * 10 ^ (18 - sa) = m
      generalize b.natAbs * 10 ^ (18 - sb) = n
      have := cmpZ_in (m : Int) (n : Int)
      have := cmpZ_in (-(m : Int)) (-(n : Int))
      omega]
    simp (disch := first | omega | (simp only [List.length_append, List.length_cons, List.length_nil, List.length_map, List.length_take, List.length_drop] <;> omega) | assumption | decide | (simp only [List.length_append, List.length_cons, List.length_nil, List.length_map] at * <;> omega) | fail) only [go_sem, wrap_i64, wrap_u64, X_ingotref11_Compare, Bool.not_true, Bool.not_false, Bool.true_and, Bool.false_and, Bool.and_true, Bool.and_false, Bool.true_or, Bool.false_or, Bool.or_true, Bool.or_false, true_and, and_true, and_self, Nat.reduceLeDiff, Nat.reduceLT, Nat.reduceAdd, Nat.zero_lt_succ, Nat.lt_add_one, Option.some.injEq, Loc.slot.injEq, Int.reduceAdd, Int.reduceSub, Int.reduceMul, Int.reduceNeg, beq_self_eq_true, List.length_cons, List.length_nil, decide_true, decide_false, Bool.and_self, bne_self_eq_false, ↓reduceIte, Nat.reduceEqDiff, reduceCtorEq, Bool.false_eq_true] at h
    simp (disch := first | omega | (simp only [List.length_append, List.length_cons, List.length_nil, List.length_map, List.length_take, List.length_drop] <;> omega) | assumption | decide | (simp only [List.length_append, List.length_cons, List.length_nil, List.length_map] at * <;> omega) | fail) only [go_sem, wrap_i64, wrap_u64, X_ingotref11_Compare, c_ingotref11_Compare, d_p, d_q, d_p2, d_q2, Bool.not_true, Bool.not_false, Bool.true_and, Bool.false_and, Bool.and_true, Bool.and_false, Bool.true_or, Bool.false_or, Bool.or_true, Bool.or_false, true_and, and_true, and_self, Nat.reduceLeDiff, Nat.reduceLT, Nat.reduceAdd, Nat.zero_lt_succ, Nat.lt_add_one, Option.some.injEq, Loc.slot.injEq, Int.reduceAdd, Int.reduceSub, Int.reduceMul, Int.reduceNeg, beq_self_eq_true, List.length_cons, List.length_nil, decide_true, decide_false, Bool.and_self, bne_self_eq_false, ↓reduceIte, Nat.reduceEqDiff, reduceCtorEq, Bool.false_eq_true]
    exact h
  · have d_q2 : decide (b ≥ 0) = true := by simp <;> omega
    have := kp (s := sa) p_p
    rw [k2 p_p, k1 (by omega), show cmpZ (-((a.natAbs * 10 ^ (18 - sa) : Nat) : Int)) ((b.natAbs * 10 ^ (18 - sb) : Nat) : Int) = -1 by unfold cmpZ; rw [if_pos (by omega)]]
    simp (disch := first | omega | (simp only [List.length_append, List.length_cons, List.length_nil, List.length_map, List.length_take, List.length_drop] <;> omega) | assumption | decide | (simp only [List.length_append, List.length_cons, List.length_nil, List.length_map] at * <;> omega) | fail) only [go_sem, wrap_i64, wrap_u64, X_ingotref11_Compare, c_ingotref11_Compare, d_p, d_q, d_q2, Bool.not_true, Bool.not_false, Bool.true_and, Bool.false_and, Bool.and_true, Bool.and_false, Bool.true_or, Bool.false_or, Bool.or_true, Bool.or_false, true_and, and_true, and_self, Nat.reduceLeDiff, Nat.reduceLT, Nat.reduceAdd, Nat.zero_lt_succ, Nat.lt_add_one, Option.some.injEq, Loc.slot.injEq, Int.reduceAdd, Int.reduceSub, Int.reduceMul, Int.reduceNeg, beq_self_eq_true, List.length_cons, List.length_nil, decide_true, decide_false, Bool.and_self, bne_self_eq_false, ↓reduceIte, Nat.reduceEqDiff, reduceCtorEq, Bool.false_eq_true]
  · have d_p2 : decide (a ≥ 0) = true := by simp <;> omega
    have := kp (s := sb) p_q
    rw [k1 (by omega), k2 p_q, show cmpZ ((a.natAbs * 10 ^ (18 - sa) : Nat) : Int) (-((b.natAbs * 10 ^ (18 - sb) : Nat) : Int)) = 1 by unfold cmpZ; rw [if_neg (by omega), if_pos (by omega)]]
    simp (disch := first | omega | (simp only [List.length_append, List.length_cons, List.length_nil, List.length_map, List.length_take, List.length_drop] <;> omega) | assumption | decide | (simp only [List.length_append, List.length_cons, List.length_nil, List.length_map] at * <;> omega) | fail) only [go_sem, wrap_i64, wrap_u64, X_ingotref11_Compare, c_ingotref11_Compare, d_p, d_q, d_p2, Bool.not_true, Bool.not_false, Bool.true_and, Bool.false_and, Bool.and_true, Bool.and_false, Bool.true_or, Bool.false_or, Bool.or_true, Bool.or_false, true_and, and_true, and_self, Nat.reduceLeDiff, Nat.reduceLT, Nat.reduceAdd, Nat.zero_lt_succ, Nat.lt_add_one, Option.some.injEq, Loc.slot.injEq, Int.reduceAdd, Int.reduceSub, Int.reduceMul, Int.reduceNeg, beq_self_eq_true, List.length_cons, List.length_nil, decide_true, decide_false, Bool.and_self, bne_self_eq_false, ↓reduceIte, Nat.reduceEqDiff, reduceCtorEq, Bool.false_eq_true]
  · have d_p2 : decide (a ≥ 0) = true := by simp <;> omega
    have h := main 1 [(27, .d (.bool false))] (.inl rfl)
    rw [k1 (by omega), k1 (by omega), ← Int.one_mul (cmpZ _ _)]
    simp (disch := first | omega | (simp only [List.length_append, List.length_cons, List.length_nil, List.length_map, List.length_take, List.length_drop] <;> omega) | assumption | decide | (simp only [List.length_append, List.length_cons, List.length_nil, List.length_map] at * <;> omega) | fail) only [go_sem, wrap_i64, wrap_u64, X_ingotref11_Compare, Bool.not_true, Bool.not_false, Bool.true_and, Bool.false_and, Bool.and_true, Bool.and_false, Bool.true_or, Bool.false_or, Bool.or_true, Bool.or_false, true_and, and_true, and_self, Nat.reduceLeDiff, Nat.reduceLT, Nat.reduceAdd, Nat.zero_lt_succ, Nat.lt_add_one, Option.some.injEq, Loc.slot.injEq, Int.reduceAdd, Int.reduceSub, Int.reduceMul, Int.reduceNeg, beq_self_eq_true, List.length_cons, List.length_nil, decide_true, decide_false, Bool.and_self, bne_self_eq_false, ↓reduceIte, Nat.reduceEqDiff, reduceCtorEq, Bool.false_eq_true] at h
    simp (disch := first | omega | (simp only [List.length_append, List.length_cons, List.length_nil, List.length_map, List.length_take, List.length_drop] <;> omega) | assumption | decide | (simp only [List.length_append, List.length_cons, List.length_nil, List.length_map] at * <;> omega) | fail) only [go_sem, wrap_i64, wrap_u64, X_ingotref11_Compare, c_ingotref11_Compare, d_p, d_q, d_p2, Bool.not_true, Bool.not_false, Bool.true_and, Bool.false_and, Bool.and_true, Bool.and_false, Bool.true_or, Bool.false_or, Bool.or_true, Bool.or_false, true_and, and_true, and_self, Nat.reduceLeDiff, Nat.reduceLT, Nat.reduceAdd, Nat.zero_lt_succ, Nat.lt_add_one, Option.some.injEq, Loc.slot.injEq, Int.reduceAdd, Int.reduceSub, Int.reduceMul, Int.reduceNeg, beq_self_eq_true, List.length_cons, List.length_nil, decide_true, decide_false, Bool.and_self, bne_self_eq_false, ↓reduceIte, Nat.reduceEqDiff, reduceCtorEq, Bool.false_eq_true]
    exact h
end Go.Proofs.YteckebocflnkdaaDoor
