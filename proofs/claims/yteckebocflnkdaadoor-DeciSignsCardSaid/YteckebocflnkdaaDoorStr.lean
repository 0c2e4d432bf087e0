/- Decimals as bytes. -/
import Derived.Test.YteckebocflnkdaaDoorNumC
import Derived.Test.YteckebocflnkdaaDoorL10
namespace Go.Proofs.YteckebocflnkdaaDoor
open Go Go.Ev
set_option linter.unusedVariables false
set_option linter.unusedSimpArgs false
set_option maxHeartbeats 2000000

theorem drop_at {α : Type} {l : List α} {i : Nat} {c : α} {r : List α} (hr : l.drop i = c :: r) : i < l.length ∧ l[i]? = some c ∧ l.drop (i + 1) = r := by
  have hlt : i < l.length := by
    apply Classical.byContradiction
    intro h
    rw [List.drop_of_length_le (by omega)] at hr
    cases hr
  refine ⟨hlt, ?_, ?_⟩
  · have := congrArg (·[0]?) hr
    simpa using this
  · rw [← List.drop_drop, hr]; rfl

theorem deci_Encode_loop (l : List Int) (hl : l.length ≤ 1000) (hin : ∀ v ∈ l, inI v) : ∀ (r : List Int) (i : Nat) (acc : List UInt8), l.drop i = r → i ≤ l.length → acc.length + 10 * r.length ≤ 100000 →
    go X_deci_Encode [.c (.loop b_deci_Encode_7), .b 0, .c (.seq r_deci_Encode_8 .ret)] ⟨[(3, .d (.sl ((acc).map byteD))), (6, .d (.sl ((l).map (D.int .i64)))), (7, .d (.int .i64 ((l.length : Int)))), (8, .d (.int .i64 ((i : Int))))], []⟩ = some (.d (.sl ((acc ++ encM r).map byteD)), [])
  | [], i, acc, hr, hi, ha => by
    have : l.length ≤ i := by simpa using hr
    have d_a : decide ((i : Int) < l.length) = false := by simp <;> omega
    rw [go_loop]
    simp (disch := first | omega | (simp only [List.length_append, List.length_cons, List.length_nil, List.length_map, List.length_take, List.length_drop] <;> omega) | assumption | decide | (simp only [List.length_append, List.length_cons, List.length_nil, List.length_map] at * <;> omega) | fail) only [go_sem, wrap_i64, wrap_u64, X_deci_Encode, d_a, Bool.not_true, Bool.not_false, Bool.true_and, Bool.false_and, Bool.and_true, Bool.and_false, Bool.true_or, Bool.false_or, Bool.or_true, Bool.or_false, true_and, and_true, and_self, Nat.reduceLeDiff, Nat.reduceLT, Nat.reduceAdd, Nat.zero_lt_succ, Nat.lt_add_one, Option.some.injEq, Loc.slot.injEq, Int.reduceAdd, Int.reduceSub, Int.reduceMul, Int.reduceNeg, beq_self_eq_true, List.length_cons, List.length_nil, decide_true, decide_false, Bool.and_self, bne_self_eq_false, ↓reduceIte, Nat.reduceEqDiff, reduceCtorEq, Bool.false_eq_true]
    simp [encM]
  | v :: r, i, acc, hr, hi, ha => by
    obtain ⟨hlt, hc, hr'⟩ := drop_at hr
    have hv := hin v (List.mem_of_getElem? hc)
    have d_a : decide ((i : Int) < l.length) = true := by simp <;> omega
    simp only [List.length_cons] at ha
    have hz := nums_Zig_ans hv
    have hp := nums_PutVar_ans (b := acc) (u := zigN v) (by omega) (zig_lt hv)
    have hb := varB_len 10 (zigN v)
    have ih := deci_Encode_loop l hl hin r (i + 1) (acc ++ varB 10 (zigN v)) hr' (by omega) (by rw [List.length_append]; omega)
    rw [show (((i + 1 : Nat)) : Int) = (i : Int) + 1 by omega] at ih
    have e : encM (v :: r) = varB 10 (zigN v) ++ encM r := by simp [encM]
    rw [go_loop, e, ← List.append_assoc]
    simp (disch := first | omega | (simp only [List.length_append, List.length_cons, List.length_nil, List.length_map, List.length_take, List.length_drop] <;> omega) | assumption | decide | (simp only [List.length_append, List.length_cons, List.length_nil, List.length_map] at * <;> omega) | fail) only [go_sem, wrap_i64, wrap_u64, X_deci_Encode, d_a, hc, hz, hp, Bool.not_true, Bool.not_false, Bool.true_and, Bool.false_and, Bool.and_true, Bool.and_false, Bool.true_or, Bool.false_or, Bool.or_true, Bool.or_false, true_and, and_true, and_self, Nat.reduceLeDiff, Nat.reduceLT, Nat.reduceAdd, Nat.zero_lt_succ, Nat.lt_add_one, Option.some.injEq, Loc.slot.injEq, Int.reduceAdd, Int.reduceSub, Int.reduceMul, Int.reduceNeg, beq_self_eq_true, List.length_cons, List.length_nil, decide_true, decide_false, Bool.and_self, bne_self_eq_false, ↓reduceIte, Nat.reduceEqDiff, reduceCtorEq, Bool.false_eq_true]
    exact ih
theorem deci_Encode_ans {l : List Int} (hl : l.length ≤ 1000) (hin : ∀ v ∈ l, inI v) : ∃ r, r.canon = .sl ((encM l).map byteD) ∧ evL cfg n_deci_Encode 0 [.d (.sl ((l).map (D.int .i64)))] [] = some (.d r, []) := by
  rw [o_deci_Encode]
  cases l with
  | nil =>
    refine ⟨.nilS, rfl, ?_⟩
    simp (disch := first | omega | (simp only [List.length_append, List.length_cons, List.length_nil, List.length_map, List.length_take, List.length_drop] <;> omega) | assumption | decide | (simp only [List.length_append, List.length_cons, List.length_nil, List.length_map] at * <;> omega) | fail) only [go_sem, wrap_i64, wrap_u64, X_deci_Encode, c_deci_Encode, go_loop, show decide ((0 : Int) < ((0 : Nat) : Int)) = false by decide, Bool.not_true, Bool.not_false, Bool.true_and, Bool.false_and, Bool.and_true, Bool.and_false, Bool.true_or, Bool.false_or, Bool.or_true, Bool.or_false, true_and, and_true, and_self, Nat.reduceLeDiff, Nat.reduceLT, Nat.reduceAdd, Nat.zero_lt_succ, Nat.lt_add_one, Option.some.injEq, Loc.slot.injEq, Int.reduceAdd, Int.reduceSub, Int.reduceMul, Int.reduceNeg, beq_self_eq_true, List.length_cons, List.length_nil, decide_true, decide_false, Bool.and_self, bne_self_eq_false, ↓reduceIte, Nat.reduceEqDiff, reduceCtorEq, Bool.false_eq_true]
  | cons v r =>
    refine ⟨.sl ((varB 10 (zigN v) ++ encM r).map byteD), by simp [D.canon, D.canA, D.can, encM], ?_⟩
    have hv := hin v (by simp)
    have hz := nums_Zig_ans hv
    have hp := nums_PutVar_ans (b := []) (u := zigN v) (by simp) (zig_lt hv)
    have hb := varB_len 10 (zigN v)
    have ih := deci_Encode_loop (v :: r) hl hin r 1 (varB 10 (zigN v)) rfl (by simp) (by simp at hl; omega)
    have d_a : decide ((0 : Int) < (((r.length + 1 : Nat)) : Int)) = true := by simp <;> omega
    rw [List.map_nil, List.nil_append] at hp
    rw [List.map_cons, List.length_cons] at ih
    simp (disch := first | omega | (simp only [List.length_append, List.length_cons, List.length_nil, List.length_map, List.length_take, List.length_drop] <;> omega) | assumption | decide | (simp only [List.length_append, List.length_cons, List.length_nil, List.length_map] at * <;> omega) | fail) only [go_sem, wrap_i64, wrap_u64, X_deci_Encode, c_deci_Encode, Bool.not_true, Bool.not_false, Bool.true_and, Bool.false_and, Bool.and_true, Bool.and_false, Bool.true_or, Bool.false_or, Bool.or_true, Bool.or_false, true_and, and_true, and_self, Nat.reduceLeDiff, Nat.reduceLT, Nat.reduceAdd, Nat.zero_lt_succ, Nat.lt_add_one, Option.some.injEq, Loc.slot.injEq, Int.reduceAdd, Int.reduceSub, Int.reduceMul, Int.reduceNeg, beq_self_eq_true, List.length_cons, List.length_nil, decide_true, decide_false, Bool.and_self, bne_self_eq_false, ↓reduceIte, Nat.reduceEqDiff, reduceCtorEq, Bool.false_eq_true]
    rw [go_loop]
    simp (disch := first | omega | (simp only [List.length_append, List.length_cons, List.length_nil, List.length_map, List.length_take, List.length_drop] <;> omega) | assumption | decide | (simp only [List.length_append, List.length_cons, List.length_nil, List.length_map] at * <;> omega) | fail) only [go_sem, wrap_i64, wrap_u64, X_deci_Encode, d_a, evIdx_sl, Int.toNat_zero, hz, hp, Bool.not_true, Bool.not_false, Bool.true_and, Bool.false_and, Bool.and_true, Bool.and_false, Bool.true_or, Bool.false_or, Bool.or_true, Bool.or_false, true_and, and_true, and_self, Nat.reduceLeDiff, Nat.reduceLT, Nat.reduceAdd, Nat.zero_lt_succ, Nat.lt_add_one, Option.some.injEq, Loc.slot.injEq, Int.reduceAdd, Int.reduceSub, Int.reduceMul, Int.reduceNeg, beq_self_eq_true, List.length_cons, List.length_nil, decide_true, decide_false, Bool.and_self, bne_self_eq_false, ↓reduceIte, Nat.reduceEqDiff, reduceCtorEq, Bool.false_eq_true]
    exact ih

/-- the document's -/
theorem ref11_Encode_loop (l : List Int) (hl : l.length ≤ 1000) (hin : ∀ v ∈ l, inI v) : ∀ (r : List Int) (i : Nat) (acc : List UInt8), l.drop i = r → i ≤ l.length → acc.length + 10 * r.length ≤ 100000 →
    go X_ingotref11_Encode [.c (.loop b_ingotref11_Encode_6), .b 0, .c (.seq r_ingotref11_Encode_7 .ret)] ⟨[(0, .d (.sl ((l).map (D.int .i64)))), (3, .own false 1 (acc.map byteD)), (4, .d (.int .i64 ((i : Int))))], []⟩ = some (.own false 1 ((acc ++ encM r).map byteD), [])
  | [], i, acc, hr, hi, ha => by
    have : l.length ≤ i := by simpa using hr
    have d_a : decide ((i : Int) < l.length) = false := by simp <;> omega
    rw [go_loop]
    simp (disch := first | omega | (simp only [List.length_append, List.length_cons, List.length_nil, List.length_map, List.length_take, List.length_drop] <;> omega) | assumption | decide | (simp only [List.length_append, List.length_cons, List.length_nil, List.length_map] at * <;> omega) | fail) only [go_sem, wrap_i64, wrap_u64, X_ingotref11_Encode, d_a, Bool.not_true, Bool.not_false, Bool.true_and, Bool.false_and, Bool.and_true, Bool.and_false, Bool.true_or, Bool.false_or, Bool.or_true, Bool.or_false, true_and, and_true, and_self, Nat.reduceLeDiff, Nat.reduceLT, Nat.reduceAdd, Nat.zero_lt_succ, Nat.lt_add_one, Option.some.injEq, Loc.slot.injEq, Int.reduceAdd, Int.reduceSub, Int.reduceMul, Int.reduceNeg, beq_self_eq_true, List.length_cons, List.length_nil, decide_true, decide_false, Bool.and_self, bne_self_eq_false, ↓reduceIte, Nat.reduceEqDiff, reduceCtorEq, Bool.false_eq_true]
    simp [encM]
  | v :: r, i, acc, hr, hi, ha => by
    obtain ⟨hlt, hc, hr'⟩ := drop_at hr
    have hv := hin v (List.mem_of_getElem? hc)
    have d_a : decide ((i : Int) < l.length) = true := by simp <;> omega
    simp only [List.length_cons] at ha
    have hz := ref1_Zig_ans hv
    have hp := ref1_PutVar_own (b := acc) (u := zigN v) (by omega) (zig_lt hv)
    have hb := varB_len 10 (zigN v)
    have ih := ref11_Encode_loop l hl hin r (i + 1) (acc ++ varB 10 (zigN v)) hr' (by omega) (by rw [List.length_append]; omega)
    rw [show (((i + 1 : Nat)) : Int) = (i : Int) + 1 by omega] at ih
    have e : encM (v :: r) = varB 10 (zigN v) ++ encM r := by simp [encM]
    rw [go_loop, e, ← List.append_assoc]
    simp (disch := first | omega | (simp only [List.length_append, List.length_cons, List.length_nil, List.length_map, List.length_take, List.length_drop] <;> omega) | assumption | decide | (simp only [List.length_append, List.length_cons, List.length_nil, List.length_map] at * <;> omega) | fail) only [go_sem, wrap_i64, wrap_u64, X_ingotref11_Encode, d_a, hc, hz, hp, Bool.not_true, Bool.not_false, Bool.true_and, Bool.false_and, Bool.and_true, Bool.and_false, Bool.true_or, Bool.false_or, Bool.or_true, Bool.or_false, true_and, and_true, and_self, Nat.reduceLeDiff, Nat.reduceLT, Nat.reduceAdd, Nat.zero_lt_succ, Nat.lt_add_one, Option.some.injEq, Loc.slot.injEq, Int.reduceAdd, Int.reduceSub, Int.reduceMul, Int.reduceNeg, beq_self_eq_true, List.length_cons, List.length_nil, decide_true, decide_false, Bool.and_self, bne_self_eq_false, ↓reduceIte, Nat.reduceEqDiff, reduceCtorEq, Bool.false_eq_true]
    exact ih
theorem ref11_Encode_ans {l : List Int} (hl : l.length ≤ 1000) (hin : ∀ v ∈ l, inI v) : evL cfg n_ingotref11_Encode 0 [.d (.sl ((l).map (D.int .i64)))] [] = some (outV ((encM l).map byteD), []) := by
  rw [o_ingotref11_Encode]
  cases l with
  | nil =>
    simp (disch := first | omega | (simp only [List.length_append, List.length_cons, List.length_nil, List.length_map, List.length_take, List.length_drop] <;> omega) | assumption | decide | (simp only [List.length_append, List.length_cons, List.length_nil, List.length_map] at * <;> omega) | fail) only [go_sem, wrap_i64, wrap_u64, X_ingotref11_Encode, c_ingotref11_Encode, go_loop, show decide ((0 : Int) < ((0 : Nat) : Int)) = false by decide, Bool.not_true, Bool.not_false, Bool.true_and, Bool.false_and, Bool.and_true, Bool.and_false, Bool.true_or, Bool.false_or, Bool.or_true, Bool.or_false, true_and, and_true, and_self, Nat.reduceLeDiff, Nat.reduceLT, Nat.reduceAdd, Nat.zero_lt_succ, Nat.lt_add_one, Option.some.injEq, Loc.slot.injEq, Int.reduceAdd, Int.reduceSub, Int.reduceMul, Int.reduceNeg, beq_self_eq_true, List.length_cons, List.length_nil, decide_true, decide_false, Bool.and_self, bne_self_eq_false, ↓reduceIte, Nat.reduceEqDiff, reduceCtorEq, Bool.false_eq_true]
    rfl
  | cons v r =>
    have hv := hin v (by simp)
    have hz := ref1_Zig_ans hv
    have hp := ref1_PutVar_nil (u := zigN v) (zig_lt hv)
    have hb := varB_len 10 (zigN v)
    have ih := ref11_Encode_loop (v :: r) hl hin r 1 (varB 10 (zigN v)) rfl (by simp) (by simp at hl; omega)
    have d_a : decide ((0 : Int) < (((r.length + 1 : Nat)) : Int)) = true := by simp <;> omega
    rw [List.map_cons] at ih
    simp (disch := first | omega | (simp only [List.length_append, List.length_cons, List.length_nil, List.length_map, List.length_take, List.length_drop] <;> omega) | assumption | decide | (simp only [List.length_append, List.length_cons, List.length_nil, List.length_map] at * <;> omega) | fail) only [go_sem, wrap_i64, wrap_u64, X_ingotref11_Encode, c_ingotref11_Encode, Bool.not_true, Bool.not_false, Bool.true_and, Bool.false_and, Bool.and_true, Bool.and_false, Bool.true_or, Bool.false_or, Bool.or_true, Bool.or_false, true_and, and_true, and_self, Nat.reduceLeDiff, Nat.reduceLT, Nat.reduceAdd, Nat.zero_lt_succ, Nat.lt_add_one, Option.some.injEq, Loc.slot.injEq, Int.reduceAdd, Int.reduceSub, Int.reduceMul, Int.reduceNeg, beq_self_eq_true, List.length_cons, List.length_nil, decide_true, decide_false, Bool.and_self, bne_self_eq_false, ↓reduceIte, Nat.reduceEqDiff, reduceCtorEq, Bool.false_eq_true]
    rw [go_loop]
    simp (disch := first | omega | (simp only [List.length_append, List.length_cons, List.length_nil, List.length_map, List.length_take, List.length_drop] <;> omega) | assumption | decide | (simp only [List.length_append, List.length_cons, List.length_nil, List.length_map] at * <;> omega) | fail) only [go_sem, wrap_i64, wrap_u64, X_ingotref11_Encode, d_a, evIdx_sl, Int.toNat_zero, hz, hp, Bool.not_true, Bool.not_false, Bool.true_and, Bool.false_and, Bool.and_true, Bool.and_false, Bool.true_or, Bool.false_or, Bool.or_true, Bool.or_false, true_and, and_true, and_self, Nat.reduceLeDiff, Nat.reduceLT, Nat.reduceAdd, Nat.zero_lt_succ, Nat.lt_add_one, Option.some.injEq, Loc.slot.injEq, Int.reduceAdd, Int.reduceSub, Int.reduceMul, Int.reduceNeg, beq_self_eq_true, List.length_cons, List.length_nil, decide_true, decide_false, Bool.and_self, bne_self_eq_false, ↓reduceIte, Nat.reduceEqDiff, reduceCtorEq, Bool.false_eq_true]
    rw [show outV ((encM (v :: r)).map byteD) = .own false 1 ((varB 10 (zigN v) ++ encM r).map byteD) by
      have e : encM (v :: r) = varB 10 (zigN v) ++ encM r := by simp [encM]
      rw [e]
      have : varB 10 (zigN v) ≠ [] := by unfold varB; split <;> simp
      cases hq : varB 10 (zigN v) with
      | nil => exact absurd hq this
      | cons c q => rfl]
    exact ih

theorem deci_Decode_loop (b : List UInt8) (hb : b.length ≤ 100000) (n : Nat) (hn : n ≤ 16384) : ∀ (k at_ : Nat) (acc : List Int), k ≤ n → at_ ≤ b.length → acc.length + k ≤ 16384 →
    go X_deci_Decode [.c (.loop b_deci_Decode_13), .b 0, .c (.seq r_deci_Decode_14 (.cond (.t 42) (.seq r_deci_Decode_15 .ret) (.seq r_deci_Decode_16 .ret)))]
      ⟨[(0, .d (.sl ((b).map byteD))), (6, outV (acc.map (D.int .i64))), (7, .d (.int .i64 ((at_ : Int)))), (17, .d (.int .i64 ((n : Int)))), (18, .d (.int .i64 (((n - k : Nat) : Int))))], []⟩ = some (.d (.tup [.sl ((decR k (b.drop at_) acc).1.map (D.int .i64)), .int .i64 ((decR k (b.drop at_) acc).2 : Int)]), [])
  | 0, at_, acc, hk, ha, hacc => by
    have d_a : decide (((n - 0 : Nat) : Int) < n) = false := by simp <;> omega
    rw [go_loop]
    unfold decR
    by_cases h : at_ = b.length
    · have : (b.drop at_).isEmpty = true := by simp [h]
      rw [if_pos this]
      have d_b : decide ((at_ : Int) < b.length) = false := by simp <;> omega
      cases acc with
      | nil => simp (disch := first | omega | (simp only [List.length_append, List.length_cons, List.length_nil, List.length_map, List.length_take, List.length_drop] <;> omega) | assumption | decide | (simp only [List.length_append, List.length_cons, List.length_nil, List.length_map] at * <;> omega) | fail) only [go_sem, wrap_i64, wrap_u64, X_deci_Decode, d_a, d_b, outV_nil, Bool.not_true, Bool.not_false, Bool.true_and, Bool.false_and, Bool.and_true, Bool.and_false, Bool.true_or, Bool.false_or, Bool.or_true, Bool.or_false, true_and, and_true, and_self, Nat.reduceLeDiff, Nat.reduceLT, Nat.reduceAdd, Nat.zero_lt_succ, Nat.lt_add_one, Option.some.injEq, Loc.slot.injEq, Int.reduceAdd, Int.reduceSub, Int.reduceMul, Int.reduceNeg, beq_self_eq_true, List.length_cons, List.length_nil, decide_true, decide_false, Bool.and_self, bne_self_eq_false, ↓reduceIte, Nat.reduceEqDiff, reduceCtorEq, Bool.false_eq_true]; rfl
      | cons x acc => simp (disch := first | omega | (simp only [List.length_append, List.length_cons, List.length_nil, List.length_map, List.length_take, List.length_drop] <;> omega) | assumption | decide | (simp only [List.length_append, List.length_cons, List.length_nil, List.length_map] at * <;> omega) | fail) only [go_sem, wrap_i64, wrap_u64, X_deci_Decode, d_a, d_b, outV_cons, Bool.not_true, Bool.not_false, Bool.true_and, Bool.false_and, Bool.and_true, Bool.and_false, Bool.true_or, Bool.false_or, Bool.or_true, Bool.or_false, true_and, and_true, and_self, Nat.reduceLeDiff, Nat.reduceLT, Nat.reduceAdd, Nat.zero_lt_succ, Nat.lt_add_one, Option.some.injEq, Loc.slot.injEq, Int.reduceAdd, Int.reduceSub, Int.reduceMul, Int.reduceNeg, beq_self_eq_true, List.length_cons, List.length_nil, decide_true, decide_false, Bool.and_self, bne_self_eq_false, ↓reduceIte, Nat.reduceEqDiff, reduceCtorEq, Bool.false_eq_true]; rfl
    · have : (b.drop at_).isEmpty = false := by simp; omega
      rw [if_neg (by rw [this]; decide)]
      have d_b : decide ((at_ : Int) < b.length) = true := by simp <;> omega
      cases acc with
      | nil => simp (disch := first | omega | (simp only [List.length_append, List.length_cons, List.length_nil, List.length_map, List.length_take, List.length_drop] <;> omega) | assumption | decide | (simp only [List.length_append, List.length_cons, List.length_nil, List.length_map] at * <;> omega) | fail) only [go_sem, wrap_i64, wrap_u64, X_deci_Decode, d_a, d_b, outV_nil, Bool.not_true, Bool.not_false, Bool.true_and, Bool.false_and, Bool.and_true, Bool.and_false, Bool.true_or, Bool.false_or, Bool.or_true, Bool.or_false, true_and, and_true, and_self, Nat.reduceLeDiff, Nat.reduceLT, Nat.reduceAdd, Nat.zero_lt_succ, Nat.lt_add_one, Option.some.injEq, Loc.slot.injEq, Int.reduceAdd, Int.reduceSub, Int.reduceMul, Int.reduceNeg, beq_self_eq_true, List.length_cons, List.length_nil, decide_true, decide_false, Bool.and_self, bne_self_eq_false, ↓reduceIte, Nat.reduceEqDiff, reduceCtorEq, Bool.false_eq_true]; rfl
      | cons x acc => simp (disch := first | omega | (simp only [List.length_append, List.length_cons, List.length_nil, List.length_map, List.length_take, List.length_drop] <;> omega) | assumption | decide | (simp only [List.length_append, List.length_cons, List.length_nil, List.length_map] at * <;> omega) | fail) only [go_sem, wrap_i64, wrap_u64, X_deci_Decode, d_a, d_b, outV_cons, Bool.not_true, Bool.not_false, Bool.true_and, Bool.false_and, Bool.and_true, Bool.and_false, Bool.true_or, Bool.false_or, Bool.or_true, Bool.or_false, true_and, and_true, and_self, Nat.reduceLeDiff, Nat.reduceLT, Nat.reduceAdd, Nat.zero_lt_succ, Nat.lt_add_one, Option.some.injEq, Loc.slot.injEq, Int.reduceAdd, Int.reduceSub, Int.reduceMul, Int.reduceNeg, beq_self_eq_true, List.length_cons, List.length_nil, decide_true, decide_false, Bool.and_self, bne_self_eq_false, ↓reduceIte, Nat.reduceEqDiff, reduceCtorEq, Bool.false_eq_true]; rfl
  | k + 1, at_, acc, hk, ha, hacc => by
    have hv := nums_Var_ans (b := b) (k := at_) (by omega) ha
    have hm := varM_ok (b.drop at_) 0 0 (by omega) (by simp)
    have d_a : decide (((n - (k + 1) : Nat) : Int) < n) = true := by simp <;> omega
    rw [go_loop]
    unfold decR
    generalize varM 0 0 (b.drop at_) = m at *
    obtain ⟨u, w, e⟩ := m
    simp only at *
    unfold varD at hv
    simp only at hv
    rw [List.length_drop] at hm
    by_cases h : e = 0
    · subst h
      have hz := nums_Zag_ans hm.1
      have ih := deci_Decode_loop b hb n hn k (at_ + w) (acc ++ [zagI u]) (by omega) (by omega) (by simp; omega)
      rw [if_pos rfl, List.drop_drop]
      rw [List.map_append, List.map_cons, List.map_nil, outV_snoc, show ((n - k : Nat) : Int) = ((n - (k + 1) : Nat) : Int) + 1 by omega, show ((at_ + w : Nat) : Int) = (at_ : Int) + w by omega] at ih
      cases acc with
      | nil =>
        simp (disch := first | omega | (simp only [List.length_append, List.length_cons, List.length_nil, List.length_map, List.length_take, List.length_drop] <;> omega) | assumption | decide | (simp only [List.length_append, List.length_cons, List.length_nil, List.length_map] at * <;> omega) | fail) only [go_sem, wrap_i64, wrap_u64, X_deci_Decode, d_a, outV_nil, hv, hz, show (((0 : Nat) : Int) != 0) = false by decide, Bool.not_true, Bool.not_false, Bool.true_and, Bool.false_and, Bool.and_true, Bool.and_false, Bool.true_or, Bool.false_or, Bool.or_true, Bool.or_false, true_and, and_true, and_self, Nat.reduceLeDiff, Nat.reduceLT, Nat.reduceAdd, Nat.zero_lt_succ, Nat.lt_add_one, Option.some.injEq, Loc.slot.injEq, Int.reduceAdd, Int.reduceSub, Int.reduceMul, Int.reduceNeg, beq_self_eq_true, List.length_cons, List.length_nil, decide_true, decide_false, Bool.and_self, bne_self_eq_false, ↓reduceIte, Nat.reduceEqDiff, reduceCtorEq, Bool.false_eq_true]
        exact ih
      | cons x acc =>
        simp (disch := first | omega | (simp only [List.length_append, List.length_cons, List.length_nil, List.length_map, List.length_take, List.length_drop] <;> omega) | assumption | decide | (simp only [List.length_append, List.length_cons, List.length_nil, List.length_map] at * <;> omega) | fail) only [go_sem, wrap_i64, wrap_u64, X_deci_Decode, d_a, outV_cons, hv, hz, show (((0 : Nat) : Int) != 0) = false by decide, Bool.not_true, Bool.not_false, Bool.true_and, Bool.false_and, Bool.and_true, Bool.and_false, Bool.true_or, Bool.false_or, Bool.or_true, Bool.or_false, true_and, and_true, and_self, Nat.reduceLeDiff, Nat.reduceLT, Nat.reduceAdd, Nat.zero_lt_succ, Nat.lt_add_one, Option.some.injEq, Loc.slot.injEq, Int.reduceAdd, Int.reduceSub, Int.reduceMul, Int.reduceNeg, beq_self_eq_true, List.length_cons, List.length_nil, decide_true, decide_false, Bool.and_self, bne_self_eq_false, ↓reduceIte, Nat.reduceEqDiff, reduceCtorEq, Bool.false_eq_true]
        exact ih
    · rw [if_neg h]
      have d2 : ((e : Int) != 0) = true := by simp; omega
      cases acc with
      | nil => simp (disch := first | omega | (simp only [List.length_append, List.length_cons, List.length_nil, List.length_map, List.length_take, List.length_drop] <;> omega) | assumption | decide | (simp only [List.length_append, List.length_cons, List.length_nil, List.length_map] at * <;> omega) | fail) only [go_sem, wrap_i64, wrap_u64, X_deci_Decode, d_a, outV_nil, hv, d2, Bool.not_true, Bool.not_false, Bool.true_and, Bool.false_and, Bool.and_true, Bool.and_false, Bool.true_or, Bool.false_or, Bool.or_true, Bool.or_false, true_and, and_true, and_self, Nat.reduceLeDiff, Nat.reduceLT, Nat.reduceAdd, Nat.zero_lt_succ, Nat.lt_add_one, Option.some.injEq, Loc.slot.injEq, Int.reduceAdd, Int.reduceSub, Int.reduceMul, Int.reduceNeg, beq_self_eq_true, List.length_cons, List.length_nil, decide_true, decide_false, Bool.and_self, bne_self_eq_false, ↓reduceIte, Nat.reduceEqDiff, reduceCtorEq, Bool.false_eq_true]
      | cons x acc => simp (disch := first | omega | (simp only [List.length_append, List.length_cons, List.length_nil, List.length_map, List.length_take, List.length_drop] <;> omega) | assumption | decide | (simp only [List.length_append, List.length_cons, List.length_nil, List.length_map] at * <;> omega) | fail) only [go_sem, wrap_i64, wrap_u64, X_deci_Decode, d_a, outV_cons, hv, d2, Bool.not_true, Bool.not_false, Bool.true_and, Bool.false_and, Bool.and_true, Bool.and_false, Bool.true_or, Bool.false_or, Bool.or_true, Bool.or_false, true_and, and_true, and_self, Nat.reduceLeDiff, Nat.reduceLT, Nat.reduceAdd, Nat.zero_lt_succ, Nat.lt_add_one, Option.some.injEq, Loc.slot.injEq, Int.reduceAdd, Int.reduceSub, Int.reduceMul, Int.reduceNeg, beq_self_eq_true, List.length_cons, List.length_nil, decide_true, decide_false, Bool.and_self, bne_self_eq_false, ↓reduceIte, Nat.reduceEqDiff, reduceCtorEq, Bool.false_eq_true]
theorem deci_Decode_ans {b : List UInt8} {count : Int} (hb : b.length ≤ 100000) : evL cfg n_deci_Decode 0 [.d (.sl ((b).map byteD)), .d (.int .i64 (count))] [] = some (.d (.tup [.sl ((decM b count).1.map (D.int .i64)), .int .i64 ((decM b count).2 : Int)]), []) := by
  rw [o_deci_Decode]
  unfold decM
  rcases Bool.eq_false_or_eq_true (decide (count < 0)) with d_p | d_p <;> have p_p := d_p <;> simp only [decide_eq_true_eq, decide_eq_false_iff_not, beq_iff_eq, beq_eq_false_iff_ne, ne_eq] at p_p 
  · rw [if_pos (.inl p_p)]
    simp (disch := first | omega | (simp only [List.length_append, List.length_cons, List.length_nil, List.length_map, List.length_take, List.length_drop] <;> omega) | assumption | decide | (simp only [List.length_append, List.length_cons, List.length_nil, List.length_map] at * <;> omega) | fail) only [go_sem, wrap_i64, wrap_u64, X_deci_Decode, c_deci_Decode, d_p, Bool.not_true, Bool.not_false, Bool.true_and, Bool.false_and, Bool.and_true, Bool.and_false, Bool.true_or, Bool.false_or, Bool.or_true, Bool.or_false, true_and, and_true, and_self, Nat.reduceLeDiff, Nat.reduceLT, Nat.reduceAdd, Nat.zero_lt_succ, Nat.lt_add_one, Option.some.injEq, Loc.slot.injEq, Int.reduceAdd, Int.reduceSub, Int.reduceMul, Int.reduceNeg, beq_self_eq_true, List.length_cons, List.length_nil, decide_true, decide_false, Bool.and_self, bne_self_eq_false, ↓reduceIte, Nat.reduceEqDiff, reduceCtorEq, Bool.false_eq_true]
    rfl
  · rcases Bool.eq_false_or_eq_true (decide (count > 16384)) with d_q | d_q <;> have p_q := d_q <;> simp only [decide_eq_true_eq, decide_eq_false_iff_not, beq_iff_eq, beq_eq_false_iff_ne, ne_eq] at p_q 
    · rw [if_pos (.inr p_q)]
      simp (disch := first | omega | (simp only [List.length_append, List.length_cons, List.length_nil, List.length_map, List.length_take, List.length_drop] <;> omega) | assumption | decide | (simp only [List.length_append, List.length_cons, List.length_nil, List.length_map] at * <;> omega) | fail) only [go_sem, wrap_i64, wrap_u64, X_deci_Decode, c_deci_Decode, d_p, d_q, Bool.not_true, Bool.not_false, Bool.true_and, Bool.false_and, Bool.and_true, Bool.and_false, Bool.true_or, Bool.false_or, Bool.or_true, Bool.or_false, true_and, and_true, and_self, Nat.reduceLeDiff, Nat.reduceLT, Nat.reduceAdd, Nat.zero_lt_succ, Nat.lt_add_one, Option.some.injEq, Loc.slot.injEq, Int.reduceAdd, Int.reduceSub, Int.reduceMul, Int.reduceNeg, beq_self_eq_true, List.length_cons, List.length_nil, decide_true, decide_false, Bool.and_self, bne_self_eq_false, ↓reduceIte, Nat.reduceEqDiff, reduceCtorEq, Bool.false_eq_true]
      rfl
    · rw [if_neg (by omega)]
      have hl := deci_Decode_loop b hb count.toNat (by omega) count.toNat 0 [] (by omega) (by omega) (by simp; omega)
      rw [show ((count.toNat : Nat) : Int) = count by omega, show ((count.toNat - count.toNat : Nat) : Int) = 0 by omega, List.drop_zero, List.map_nil, outV_nil, show ((0 : Nat) : Int) = 0 from rfl] at hl
      simp (disch := first | omega | (simp only [List.length_append, List.length_cons, List.length_nil, List.length_map, List.length_take, List.length_drop] <;> omega) | assumption | decide | (simp only [List.length_append, List.length_cons, List.length_nil, List.length_map] at * <;> omega) | fail) only [go_sem, wrap_i64, wrap_u64, X_deci_Decode, c_deci_Decode, d_p, d_q, Bool.not_true, Bool.not_false, Bool.true_and, Bool.false_and, Bool.and_true, Bool.and_false, Bool.true_or, Bool.false_or, Bool.or_true, Bool.or_false, true_and, and_true, and_self, Nat.reduceLeDiff, Nat.reduceLT, Nat.reduceAdd, Nat.zero_lt_succ, Nat.lt_add_one, Option.some.injEq, Loc.slot.injEq, Int.reduceAdd, Int.reduceSub, Int.reduceMul, Int.reduceNeg, beq_self_eq_true, List.length_cons, List.length_nil, decide_true, decide_false, Bool.and_self, bne_self_eq_false, ↓reduceIte, Nat.reduceEqDiff, reduceCtorEq, Bool.false_eq_true]
      exact hl

theorem ref11_Decode_loop (b : List UInt8) (hb : b.length ≤ 100000) (n : Nat) (hn : n ≤ 16384) : ∀ (k at_ : Nat) (acc : List Int), k ≤ n → at_ ≤ b.length → acc.length + k ≤ 16384 →
    go X_ingotref11_Decode [.c (.loop b_ingotref11_Decode_13), .b 0, .c (.seq r_ingotref11_Decode_14 (.cond (.t 44) (.seq r_ingotref11_Decode_15 .ret) (.seq r_ingotref11_Decode_16 .ret)))]
      ⟨[(0, .d (.sl ((b).map byteD))), (1, .d (.int .i64 ((n : Int)))), (6, outV (acc.map (D.int .i64))), (7, .d (.int .i64 ((at_ : Int)))), (8, .d (.int .i64 (((n - k : Nat) : Int))))], []⟩ = some (.d (.tup [.sl ((decR k (b.drop at_) acc).1.map (D.int .i64)), .int .i64 ((decR k (b.drop at_) acc).2 : Int)]), [])
  | 0, at_, acc, hk, ha, hacc => by
    have d_a : decide (((n - 0 : Nat) : Int) < n) = false := by simp <;> omega
    rw [go_loop]
    unfold decR
    by_cases h : at_ = b.length
    · have : (b.drop at_).isEmpty = true := by simp [h]
      rw [if_pos this]
      have d_b : ((at_ : Int) != b.length) = false := by simp; omega
      cases acc with
      | nil => simp (disch := first | omega | (simp only [List.length_append, List.length_cons, List.length_nil, List.length_map, List.length_take, List.length_drop] <;> omega) | assumption | decide | (simp only [List.length_append, List.length_cons, List.length_nil, List.length_map] at * <;> omega) | fail) only [go_sem, wrap_i64, wrap_u64, X_ingotref11_Decode, d_a, d_b, outV_nil, Bool.not_true, Bool.not_false, Bool.true_and, Bool.false_and, Bool.and_true, Bool.and_false, Bool.true_or, Bool.false_or, Bool.or_true, Bool.or_false, true_and, and_true, and_self, Nat.reduceLeDiff, Nat.reduceLT, Nat.reduceAdd, Nat.zero_lt_succ, Nat.lt_add_one, Option.some.injEq, Loc.slot.injEq, Int.reduceAdd, Int.reduceSub, Int.reduceMul, Int.reduceNeg, beq_self_eq_true, List.length_cons, List.length_nil, decide_true, decide_false, Bool.and_self, bne_self_eq_false, ↓reduceIte, Nat.reduceEqDiff, reduceCtorEq, Bool.false_eq_true]; rfl
      | cons x acc => simp (disch := first | omega | (simp only [List.length_append, List.length_cons, List.length_nil, List.length_map, List.length_take, List.length_drop] <;> omega) | assumption | decide | (simp only [List.length_append, List.length_cons, List.length_nil, List.length_map] at * <;> omega) | fail) only [go_sem, wrap_i64, wrap_u64, X_ingotref11_Decode, d_a, d_b, outV_cons, Bool.not_true, Bool.not_false, Bool.true_and, Bool.false_and, Bool.and_true, Bool.and_false, Bool.true_or, Bool.false_or, Bool.or_true, Bool.or_false, true_and, and_true, and_self, Nat.reduceLeDiff, Nat.reduceLT, Nat.reduceAdd, Nat.zero_lt_succ, Nat.lt_add_one, Option.some.injEq, Loc.slot.injEq, Int.reduceAdd, Int.reduceSub, Int.reduceMul, Int.reduceNeg, beq_self_eq_true, List.length_cons, List.length_nil, decide_true, decide_false, Bool.and_self, bne_self_eq_false, ↓reduceIte, Nat.reduceEqDiff, reduceCtorEq, Bool.false_eq_true]; rfl
    · have : (b.drop at_).isEmpty = false := by simp; omega
      rw [if_neg (by rw [this]; decide)]
      have d_b : ((at_ : Int) != b.length) = true := by simp; omega
      cases acc with
      | nil => simp (disch := first | omega | (simp only [List.length_append, List.length_cons, List.length_nil, List.length_map, List.length_take, List.length_drop] <;> omega) | assumption | decide | (simp only [List.length_append, List.length_cons, List.length_nil, List.length_map] at * <;> omega) | fail) only [go_sem, wrap_i64, wrap_u64, X_ingotref11_Decode, d_a, d_b, outV_nil, Bool.not_true, Bool.not_false, Bool.true_and, Bool.false_and, Bool.and_true, Bool.and_false, Bool.true_or, Bool.false_or, Bool.or_true, Bool.or_false, true_and, and_true, and_self, Nat.reduceLeDiff, Nat.reduceLT, Nat.reduceAdd, Nat.zero_lt_succ, Nat.lt_add_one, Option.some.injEq, Loc.slot.injEq, Int.reduceAdd, Int.reduceSub, Int.reduceMul, Int.reduceNeg, beq_self_eq_true, List.length_cons, List.length_nil, decide_true, decide_false, Bool.and_self, bne_self_eq_false, ↓reduceIte, Nat.reduceEqDiff, reduceCtorEq, Bool.false_eq_true]; rfl
      | cons x acc => simp (disch := first | omega | (simp only [List.length_append, List.length_cons, List.length_nil, List.length_map, List.length_take, List.length_drop] <;> omega) | assumption | decide | (simp only [List.length_append, List.length_cons, List.length_nil, List.length_map] at * <;> omega) | fail) only [go_sem, wrap_i64, wrap_u64, X_ingotref11_Decode, d_a, d_b, outV_cons, Bool.not_true, Bool.not_false, Bool.true_and, Bool.false_and, Bool.and_true, Bool.and_false, Bool.true_or, Bool.false_or, Bool.or_true, Bool.or_false, true_and, and_true, and_self, Nat.reduceLeDiff, Nat.reduceLT, Nat.reduceAdd, Nat.zero_lt_succ, Nat.lt_add_one, Option.some.injEq, Loc.slot.injEq, Int.reduceAdd, Int.reduceSub, Int.reduceMul, Int.reduceNeg, beq_self_eq_true, List.length_cons, List.length_nil, decide_true, decide_false, Bool.and_self, bne_self_eq_false, ↓reduceIte, Nat.reduceEqDiff, reduceCtorEq, Bool.false_eq_true]; rfl
  | k + 1, at_, acc, hk, ha, hacc => by
    have hv := ref1_Var_ans (b := b) (k := at_) (by omega) ha
    have hm := varM_ok (b.drop at_) 0 0 (by omega) (by simp)
    have d_a : decide (((n - (k + 1) : Nat) : Int) < n) = true := by simp <;> omega
    rw [go_loop]
    unfold decR
    generalize varM 0 0 (b.drop at_) = m at *
    obtain ⟨u, w, e⟩ := m
    simp only at *
    unfold varD at hv
    simp only at hv
    rw [List.length_drop] at hm
    by_cases h : e = 0
    · subst h
      have hz := ref1_Zag_ans hm.1
      have ih := ref11_Decode_loop b hb n hn k (at_ + w) (acc ++ [zagI u]) (by omega) (by omega) (by simp; omega)
      rw [if_pos rfl, List.drop_drop]
      rw [List.map_append, List.map_cons, List.map_nil, outV_snoc, show ((n - k : Nat) : Int) = ((n - (k + 1) : Nat) : Int) + 1 by omega, show ((at_ + w : Nat) : Int) = (at_ : Int) + w by omega] at ih
      cases acc with
      | nil =>
        simp (disch := first | omega | (simp only [List.length_append, List.length_cons, List.length_nil, List.length_map, List.length_take, List.length_drop] <;> omega) | assumption | decide | (simp only [List.length_append, List.length_cons, List.length_nil, List.length_map] at * <;> omega) | fail) only [go_sem, wrap_i64, wrap_u64, X_ingotref11_Decode, d_a, outV_nil, hv, hz, show (((0 : Nat) : Int) != 0) = false by decide, Bool.not_true, Bool.not_false, Bool.true_and, Bool.false_and, Bool.and_true, Bool.and_false, Bool.true_or, Bool.false_or, Bool.or_true, Bool.or_false, true_and, and_true, and_self, Nat.reduceLeDiff, Nat.reduceLT, Nat.reduceAdd, Nat.zero_lt_succ, Nat.lt_add_one, Option.some.injEq, Loc.slot.injEq, Int.reduceAdd, Int.reduceSub, Int.reduceMul, Int.reduceNeg, beq_self_eq_true, List.length_cons, List.length_nil, decide_true, decide_false, Bool.and_self, bne_self_eq_false, ↓reduceIte, Nat.reduceEqDiff, reduceCtorEq, Bool.false_eq_true]
        exact ih
      | cons x acc =>
        simp (disch := first | omega | (simp only [List.length_append, List.length_cons, List.length_nil, List.length_map, List.length_take, List.length_drop] <;> omega) | assumption | decide | (simp only [List.length_append, List.length_cons, List.length_nil, List.length_map] at * <;> omega) | fail) only [go_sem, wrap_i64, wrap_u64, X_ingotref11_Decode, d_a, outV_cons, hv, hz, show (((0 : Nat) : Int) != 0) = false by decide, Bool.not_true, Bool.not_false, Bool.true_and, Bool.false_and, Bool.and_true, Bool.and_false, Bool.true_or, Bool.false_or, Bool.or_true, Bool.or_false, true_and, and_true, and_self, Nat.reduceLeDiff, Nat.reduceLT, Nat.reduceAdd, Nat.zero_lt_succ, Nat.lt_add_one, Option.some.injEq, Loc.slot.injEq, Int.reduceAdd, Int.reduceSub, Int.reduceMul, Int.reduceNeg, beq_self_eq_true, List.length_cons, List.length_nil, decide_true, decide_false, Bool.and_self, bne_self_eq_false, ↓reduceIte, Nat.reduceEqDiff, reduceCtorEq, Bool.false_eq_true]
        exact ih
    · rw [if_neg h]
      have d2 : ((e : Int) != 0) = true := by simp; omega
      cases acc with
      | nil => simp (disch := first | omega | (simp only [List.length_append, List.length_cons, List.length_nil, List.length_map, List.length_take, List.length_drop] <;> omega) | assumption | decide | (simp only [List.length_append, List.length_cons, List.length_nil, List.length_map] at * <;> omega) | fail) only [go_sem, wrap_i64, wrap_u64, X_ingotref11_Decode, d_a, outV_nil, hv, d2, Bool.not_true, Bool.not_false, Bool.true_and, Bool.false_and, Bool.and_true, Bool.and_false, Bool.true_or, Bool.false_or, Bool.or_true, Bool.or_false, true_and, and_true, and_self, Nat.reduceLeDiff, Nat.reduceLT, Nat.reduceAdd, Nat.zero_lt_succ, Nat.lt_add_one, Option.some.injEq, Loc.slot.injEq, Int.reduceAdd, Int.reduceSub, Int.reduceMul, Int.reduceNeg, beq_self_eq_true, List.length_cons, List.length_nil, decide_true, decide_false, Bool.and_self, bne_self_eq_false, ↓reduceIte, Nat.reduceEqDiff, reduceCtorEq, Bool.false_eq_true]
      | cons x acc => simp (disch := first | omega | (simp only [List.length_append, List.length_cons, List.length_nil, List.length_map, List.length_take, List.length_drop] <;> omega) | assumption | decide | (simp only [List.length_append, List.length_cons, List.length_nil, List.length_map] at * <;> omega) | fail) only [go_sem, wrap_i64, wrap_u64, X_ingotref11_Decode, d_a, outV_cons, hv, d2, Bool.not_true, Bool.not_false, Bool.true_and, Bool.false_and, Bool.and_true, Bool.and_false, Bool.true_or, Bool.false_or, Bool.or_true, Bool.or_false, true_and, and_true, and_self, Nat.reduceLeDiff, Nat.reduceLT, Nat.reduceAdd, Nat.zero_lt_succ, Nat.lt_add_one, Option.some.injEq, Loc.slot.injEq, Int.reduceAdd, Int.reduceSub, Int.reduceMul, Int.reduceNeg, beq_self_eq_true, List.length_cons, List.length_nil, decide_true, decide_false, Bool.and_self, bne_self_eq_false, ↓reduceIte, Nat.reduceEqDiff, reduceCtorEq, Bool.false_eq_true]
theorem ref11_Decode_ans {b : List UInt8} {count : Int} (hb : b.length ≤ 100000) : evL cfg n_ingotref11_Decode 0 [.d (.sl ((b).map byteD)), .d (.int .i64 (count))] [] = some (.d (.tup [.sl ((decM b count).1.map (D.int .i64)), .int .i64 ((decM b count).2 : Int)]), []) := by
  rw [o_ingotref11_Decode]
  unfold decM
  rcases Bool.eq_false_or_eq_true (decide (count < 0)) with d_p | d_p <;> have p_p := d_p <;> simp only [decide_eq_true_eq, decide_eq_false_iff_not, beq_iff_eq, beq_eq_false_iff_ne, ne_eq] at p_p 
  · rw [if_pos (.inl p_p)]
    simp (disch := first | omega | (simp only [List.length_append, List.length_cons, List.length_nil, List.length_map, List.length_take, List.length_drop] <;> omega) | assumption | decide | (simp only [List.length_append, List.length_cons, List.length_nil, List.length_map] at * <;> omega) | fail) only [go_sem, wrap_i64, wrap_u64, X_ingotref11_Decode, c_ingotref11_Decode, d_p, Bool.not_true, Bool.not_false, Bool.true_and, Bool.false_and, Bool.and_true, Bool.and_false, Bool.true_or, Bool.false_or, Bool.or_true, Bool.or_false, true_and, and_true, and_self, Nat.reduceLeDiff, Nat.reduceLT, Nat.reduceAdd, Nat.zero_lt_succ, Nat.lt_add_one, Option.some.injEq, Loc.slot.injEq, Int.reduceAdd, Int.reduceSub, Int.reduceMul, Int.reduceNeg, beq_self_eq_true, List.length_cons, List.length_nil, decide_true, decide_false, Bool.and_self, bne_self_eq_false, ↓reduceIte, Nat.reduceEqDiff, reduceCtorEq, Bool.false_eq_true]
    rfl
  · rcases Bool.eq_false_or_eq_true (decide (count > 16384)) with d_q | d_q <;> have p_q := d_q <;> simp only [decide_eq_true_eq, decide_eq_false_iff_not, beq_iff_eq, beq_eq_false_iff_ne, ne_eq] at p_q 
    · rw [if_pos (.inr p_q)]
      simp (disch := first | omega | (simp only [List.length_append, List.length_cons, List.length_nil, List.length_map, List.length_take, List.length_drop] <;> omega) | assumption | decide | (simp only [List.length_append, List.length_cons, List.length_nil, List.length_map] at * <;> omega) | fail) only [go_sem, wrap_i64, wrap_u64, X_ingotref11_Decode, c_ingotref11_Decode, d_p, d_q, Bool.not_true, Bool.not_false, Bool.true_and, Bool.false_and, Bool.and_true, Bool.and_false, Bool.true_or, Bool.false_or, Bool.or_true, Bool.or_false, true_and, and_true, and_self, Nat.reduceLeDiff, Nat.reduceLT, Nat.reduceAdd, Nat.zero_lt_succ, Nat.lt_add_one, Option.some.injEq, Loc.slot.injEq, Int.reduceAdd, Int.reduceSub, Int.reduceMul, Int.reduceNeg, beq_self_eq_true, List.length_cons, List.length_nil, decide_true, decide_false, Bool.and_self, bne_self_eq_false, ↓reduceIte, Nat.reduceEqDiff, reduceCtorEq, Bool.false_eq_true]
      rfl
    · rw [if_neg (by omega)]
      have hl := ref11_Decode_loop b hb count.toNat (by omega) count.toNat 0 [] (by omega) (by omega) (by simp; omega)
      rw [show ((count.toNat : Nat) : Int) = count by omega, show ((count.toNat - count.toNat : Nat) : Int) = 0 by omega, List.drop_zero, List.map_nil, outV_nil, show ((0 : Nat) : Int) = 0 from rfl] at hl
      simp (disch := first | omega | (simp only [List.length_append, List.length_cons, List.length_nil, List.length_map, List.length_take, List.length_drop] <;> omega) | assumption | decide | (simp only [List.length_append, List.length_cons, List.length_nil, List.length_map] at * <;> omega) | fail) only [go_sem, wrap_i64, wrap_u64, X_ingotref11_Decode, c_ingotref11_Decode, d_p, d_q, Bool.not_true, Bool.not_false, Bool.true_and, Bool.false_and, Bool.and_true, Bool.and_false, Bool.true_or, Bool.false_or, Bool.or_true, Bool.or_false, true_and, and_true, and_self, Nat.reduceLeDiff, Nat.reduceLT, Nat.reduceAdd, Nat.zero_lt_succ, Nat.lt_add_one, Option.some.injEq, Loc.slot.injEq, Int.reduceAdd, Int.reduceSub, Int.reduceMul, Int.reduceNeg, beq_self_eq_true, List.length_cons, List.length_nil, decide_true, decide_false, Bool.and_self, bne_self_eq_false, ↓reduceIte, Nat.reduceEqDiff, reduceCtorEq, Bool.false_eq_true]
      exact hl

theorem law8_Same_loop (a b : List Int) (hab : a.length = b.length) (hl : a.length ≤ 1000000) : ∀ (r q : List Int) (i : Nat), a.drop i = r → b.drop i = q → i ≤ a.length →
    go X_ingotlaw8_Same [.c (.loop b_ingotlaw8_Same_8), .b 0, .c (.seq r_ingotlaw8_Same_9 .ret)] ⟨[(0, .d (.sl ((a).map (D.int .i64)))), (1, .d (.sl ((b).map (D.int .i64)))), (5, .d (.int .i64 ((i : Int))))], []⟩ = some (.d (.bool (r == q)), [])
  | [], q, i, hr, hq, hi => by
    have h1 : a.length ≤ i := by simpa using hr
    have h2 : q = [] := by rw [← hq]; simp; omega
    subst h2
    have d_a : decide ((i : Int) < a.length) = false := by simp <;> omega
    rw [go_loop]
    simp (disch := first | omega | (simp only [List.length_append, List.length_cons, List.length_nil, List.length_map, List.length_take, List.length_drop] <;> omega) | assumption | decide | (simp only [List.length_append, List.length_cons, List.length_nil, List.length_map] at * <;> omega) | fail) only [go_sem, wrap_i64, wrap_u64, X_ingotlaw8_Same, d_a, Bool.not_true, Bool.not_false, Bool.true_and, Bool.false_and, Bool.and_true, Bool.and_false, Bool.true_or, Bool.false_or, Bool.or_true, Bool.or_false, true_and, and_true, and_self, Nat.reduceLeDiff, Nat.reduceLT, Nat.reduceAdd, Nat.zero_lt_succ, Nat.lt_add_one, Option.some.injEq, Loc.slot.injEq, Int.reduceAdd, Int.reduceSub, Int.reduceMul, Int.reduceNeg, beq_self_eq_true, List.length_cons, List.length_nil, decide_true, decide_false, Bool.and_self, bne_self_eq_false, ↓reduceIte, Nat.reduceEqDiff, reduceCtorEq, Bool.false_eq_true]
  | x :: r, q, i, hr, hq, hi => by
    obtain ⟨hlt, hc, hr'⟩ := drop_at hr
    cases q with
    | nil =>
      have h1 : b.length ≤ i := by simpa using hq
      omega
    | cons y q =>
      obtain ⟨hlt2, hc2, hq'⟩ := drop_at hq
      have d_a : decide ((i : Int) < a.length) = true := by simp <;> omega
      rw [go_loop]
      by_cases h : x = y
      · subst h
        have ih := law8_Same_loop a b hab hl r q (i + 1) hr' hq' (by omega)
        rw [show (((i + 1 : Nat)) : Int) = (i : Int) + 1 by omega] at ih
        have e : ((x :: r) == (x :: q)) = (r == q) := by simp
        have d2 : (x != x) = false := by simp
        rw [e]
        simp (disch := first | omega | (simp only [List.length_append, List.length_cons, List.length_nil, List.length_map, List.length_take, List.length_drop] <;> omega) | assumption | decide | (simp only [List.length_append, List.length_cons, List.length_nil, List.length_map] at * <;> omega) | fail) only [go_sem, wrap_i64, wrap_u64, X_ingotlaw8_Same, d_a, hc, hc2, d2, Bool.not_true, Bool.not_false, Bool.true_and, Bool.false_and, Bool.and_true, Bool.and_false, Bool.true_or, Bool.false_or, Bool.or_true, Bool.or_false, true_and, and_true, and_self, Nat.reduceLeDiff, Nat.reduceLT, Nat.reduceAdd, Nat.zero_lt_succ, Nat.lt_add_one, Option.some.injEq, Loc.slot.injEq, Int.reduceAdd, Int.reduceSub, Int.reduceMul, Int.reduceNeg, beq_self_eq_true, List.length_cons, List.length_nil, decide_true, decide_false, Bool.and_self, bne_self_eq_false, ↓reduceIte, Nat.reduceEqDiff, reduceCtorEq, Bool.false_eq_true]
        exact ih
      · have d2 : (x != y) = true := by simp [h]
        have e : ((x :: r) == (y :: q)) = false := by simp [h]
        rw [e]
        simp (disch := first | omega | (simp only [List.length_append, List.length_cons, List.length_nil, List.length_map, List.length_take, List.length_drop] <;> omega) | assumption | decide | (simp only [List.length_append, List.length_cons, List.length_nil, List.length_map] at * <;> omega) | fail) only [go_sem, wrap_i64, wrap_u64, X_ingotlaw8_Same, d_a, hc, hc2, d2, Bool.not_true, Bool.not_false, Bool.true_and, Bool.false_and, Bool.and_true, Bool.and_false, Bool.true_or, Bool.false_or, Bool.or_true, Bool.or_false, true_and, and_true, and_self, Nat.reduceLeDiff, Nat.reduceLT, Nat.reduceAdd, Nat.zero_lt_succ, Nat.lt_add_one, Option.some.injEq, Loc.slot.injEq, Int.reduceAdd, Int.reduceSub, Int.reduceMul, Int.reduceNeg, beq_self_eq_true, List.length_cons, List.length_nil, decide_true, decide_false, Bool.and_self, bne_self_eq_false, ↓reduceIte, Nat.reduceEqDiff, reduceCtorEq, Bool.false_eq_true]
theorem law8_Same_ans {a b : List Int} (ha : a.length ≤ 1000000) (hb : b.length ≤ 1000000) : evL cfg n_ingotlaw8_Same 0 [.d (.sl ((a).map (D.int .i64))), .d (.sl ((b).map (D.int .i64)))] [] = some (.d (.bool (a == b)), []) := by
  rw [o_ingotlaw8_Same]
  by_cases h : a.length = b.length
  · have d1 : ((a.length : Int) != b.length) = false := by simp [h]
    have hl := law8_Same_loop a b h ha a b 0 rfl rfl (by omega)
    simp (disch := first | omega | (simp only [List.length_append, List.length_cons, List.length_nil, List.length_map, List.length_take, List.length_drop] <;> omega) | assumption | decide | (simp only [List.length_append, List.length_cons, List.length_nil, List.length_map] at * <;> omega) | fail) only [go_sem, wrap_i64, wrap_u64, X_ingotlaw8_Same, c_ingotlaw8_Same, d1, Bool.not_true, Bool.not_false, Bool.true_and, Bool.false_and, Bool.and_true, Bool.and_false, Bool.true_or, Bool.false_or, Bool.or_true, Bool.or_false, true_and, and_true, and_self, Nat.reduceLeDiff, Nat.reduceLT, Nat.reduceAdd, Nat.zero_lt_succ, Nat.lt_add_one, Option.some.injEq, Loc.slot.injEq, Int.reduceAdd, Int.reduceSub, Int.reduceMul, Int.reduceNeg, beq_self_eq_true, List.length_cons, List.length_nil, decide_true, decide_false, Bool.and_self, bne_self_eq_false, ↓reduceIte, Nat.reduceEqDiff, reduceCtorEq, Bool.false_eq_true]
    exact hl
  · have d1 : ((a.length : Int) != b.length) = true := by simp; omega
    have e : (a == b) = false := by simp; intro c; exact h (by rw [c])
    simp (disch := first | omega | (simp only [List.length_append, List.length_cons, List.length_nil, List.length_map, List.length_take, List.length_drop] <;> omega) | assumption | decide | (simp only [List.length_append, List.length_cons, List.length_nil, List.length_map] at * <;> omega) | fail) only [go_sem, wrap_i64, wrap_u64, X_ingotlaw8_Same, c_ingotlaw8_Same, d1, e, Bool.not_true, Bool.not_false, Bool.true_and, Bool.false_and, Bool.and_true, Bool.and_false, Bool.true_or, Bool.false_or, Bool.or_true, Bool.or_false, true_and, and_true, and_self, Nat.reduceLeDiff, Nat.reduceLT, Nat.reduceAdd, Nat.zero_lt_succ, Nat.lt_add_one, Option.some.injEq, Loc.slot.injEq, Int.reduceAdd, Int.reduceSub, Int.reduceMul, Int.reduceNeg, beq_self_eq_true, List.length_cons, List.length_nil, decide_true, decide_false, Bool.and_self, bne_self_eq_false, ↓reduceIte, Nat.reduceEqDiff, reduceCtorEq, Bool.false_eq_true]
end Go.Proofs.YteckebocflnkdaaDoor
