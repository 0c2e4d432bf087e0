/- Decimals as words: what the functions compute. -/
import Derived.Test.YteckebocflnkdaaDoorSca
import Derived.Test.YteckebocflnkdaaDoorStr
import Derived.Test.YteckebocflnkdaaDoorL10
namespace Go.Proofs.YteckebocflnkdaaDoor
open Go Go.Ev
set_option linter.unusedVariables false
set_option linter.unusedSimpArgs false
set_option maxHeartbeats 4000000

theorem fmt_at {n : Int} (h : 0 ≤ n ∧ n < 18446744073709551616 ∧ (10 : Int) = 10) : xFmtU [.int .u64 n, .int .i64 10] = some (.d (.str (decF 20 n.toNat))) := if_pos h
theorem fmtU_ans {u : Nat} (h : u < 18446744073709551616) : evL cfg n_strconv_FormatUint 0 [.d (.int .u64 ((u : Int))), .d (.int .i64 (10))] [] = some (.d (.str (decF 20 u)), []) := by
  rw [evL_ext (g := xFmtU) rfl]
  have e : allD [.d (.int .u64 ((u : Int))), .d (.int .i64 (10))] = some [.int .u64 (u : Int), .int .i64 10] := rfl
  rw [e]
  rw [Option.bind_some, fmt_at ⟨by omega, by omega, rfl⟩, Int.toNat_natCast, Option.map_some]
theorem repeat_ans {k : Nat} (h : k ≤ 1000) : evL cfg n_strings_Repeat 0 [.d (.str ([48])), .d (.int .i64 ((k : Int)))] [] = some (.d (.str (zer k)), []) := by
  rw [evL_ext (g := xRepeat) rfl]
  have e : allD [.d (.str ([48])), .d (.int .i64 ((k : Int)))] = some [.str [48], .int .i64 (k : Int)] := rfl
  rw [e]
  simp only [Option.bind_some, xRepeat]
  have c : 0 ≤ (k : Int) ∧ (k : Int) ≤ 1000 ∧ ([48] : List UInt8).length ≤ 1000 := ⟨by omega, by omega, by decide⟩
  rw [if_pos c, Int.toNat_natCast, repeat_zer]
  rfl
theorem ref11_digits_loop : ∀ (k n : Nat) (s : List UInt8), n < 10 ^ (k + 1) → n < 18446744073709551616 → s.length + k ≤ 100 →
    go X_ingotref11_digits [.c (.loop b_ingotref11_digits_5), .b 0, .c (.seq r_ingotref11_digits_6 .ret)] ⟨[(0, .d (.int .u64 ((n : Int)))), (3, .d (.str (UInt8.ofNat (48 + n % 10) :: s)))], []⟩ = some (.d (.str (decF (k + 1) n ++ s)), [])
  | k, n, s, h, h', hs => by
    by_cases c : n < 10
    · have d_a : decide ((n : Int) ≥ 10) = false := by simp <;> omega
      rw [go_loop, decF_succ, if_pos c]
      simp (disch := first | omega | (simp only [List.length_append, List.length_cons, List.length_nil, List.length_map, List.length_take, List.length_drop] <;> omega) | assumption | decide | (simp only [List.length_append, List.length_cons, List.length_nil, List.length_map] at * <;> omega) | fail) only [go_sem, wrap_i64, wrap_u64, X_ingotref11_digits, d_a, show n % 10 = n by omega, Bool.not_true, Bool.not_false, Bool.true_and, Bool.false_and, Bool.and_true, Bool.and_false, Bool.true_or, Bool.false_or, Bool.or_true, Bool.or_false, true_and, and_true, and_self, Nat.reduceLeDiff, Nat.reduceLT, Nat.reduceAdd, Nat.zero_lt_succ, Nat.lt_add_one, Option.some.injEq, Loc.slot.injEq, Int.reduceAdd, Int.reduceSub, Int.reduceMul, Int.reduceNeg, beq_self_eq_true, List.length_cons, List.length_nil, decide_true, decide_false, Bool.and_self, bne_self_eq_false, ↓reduceIte, Nat.reduceEqDiff, reduceCtorEq, Bool.false_eq_true]
    · cases k with
      | zero => simp at h; omega
      | succ k =>
        have d_a : decide ((n : Int) ≥ 10) = true := by simp <;> omega
        have ih := ref11_digits_loop k (n / 10) (UInt8.ofNat (48 + n % 10) :: s) (by rw [Nat.pow_succ] at h; omega) (by omega) (by simp only [List.length_cons]; omega)
        have e1 : ((n : Int)).tdiv 10 = ((n / 10 : Nat) : Int) := by rw [tdp (by omega)]; omega
        have e2 : (((n / 10 : Nat) : Int)).tmod 10 = ((n / 10 % 10 : Nat) : Int) := by rw [tmp (by omega)]; omega
        have e3 : (48 + ((n / 10 % 10 : Nat) : Int)).toNat = 48 + n / 10 % 10 := by omega
        rw [go_loop, decF_succ, if_neg c, List.append_assoc]
        simp (disch := first | omega | (simp only [List.length_append, List.length_cons, List.length_nil, List.length_map, List.length_take, List.length_drop] <;> omega) | assumption | decide | (simp only [List.length_append, List.length_cons, List.length_nil, List.length_map] at * <;> omega) | fail) only [go_sem, wrap_i64, wrap_u64, X_ingotref11_digits, d_a, ib_quo, ib_rem, e1, e2, wrap_u8, e3, Bool.not_true, Bool.not_false, Bool.true_and, Bool.false_and, Bool.and_true, Bool.and_false, Bool.true_or, Bool.false_or, Bool.or_true, Bool.or_false, true_and, and_true, and_self, Nat.reduceLeDiff, Nat.reduceLT, Nat.reduceAdd, Nat.zero_lt_succ, Nat.lt_add_one, Option.some.injEq, Loc.slot.injEq, Int.reduceAdd, Int.reduceSub, Int.reduceMul, Int.reduceNeg, beq_self_eq_true, List.length_cons, List.length_nil, decide_true, decide_false, Bool.and_self, bne_self_eq_false, ↓reduceIte, Nat.reduceEqDiff, reduceCtorEq, Bool.false_eq_true]
        exact ih
theorem ref11_digits_ans {u : Nat} (h : u < 18446744073709551616) : evL cfg n_ingotref11_digits 0 [.d (.int .u64 ((u : Int)))] [] = some (.d (.str (decF 20 u)), []) := by
  rw [o_ingotref11_digits]
  have hl := ref11_digits_loop 19 u [] (by omega) h (by simp)
  rw [List.append_nil] at hl
  have e2 : ((u : Int)).tmod 10 = ((u % 10 : Nat) : Int) := by rw [tmp (by omega)]; omega
  have e3 : (48 + ((u % 10 : Nat) : Int)).toNat = 48 + u % 10 := by omega
  simp (disch := first | omega | (simp only [List.length_append, List.length_cons, List.length_nil, List.length_map, List.length_take, List.length_drop] <;> omega) | assumption | decide | (simp only [List.length_append, List.length_cons, List.length_nil, List.length_map] at * <;> omega) | fail) only [go_sem, wrap_i64, wrap_u64, X_ingotref11_digits, c_ingotref11_digits, ib_rem, e2, wrap_u8, e3, hl, Bool.not_true, Bool.not_false, Bool.true_and, Bool.false_and, Bool.and_true, Bool.and_false, Bool.true_or, Bool.false_or, Bool.or_true, Bool.or_false, true_and, and_true, and_self, Nat.reduceLeDiff, Nat.reduceLT, Nat.reduceAdd, Nat.zero_lt_succ, Nat.lt_add_one, Option.some.injEq, Loc.slot.injEq, Int.reduceAdd, Int.reduceSub, Int.reduceMul, Int.reduceNeg, beq_self_eq_true, List.length_cons, List.length_nil, decide_true, decide_false, Bool.and_self, bne_self_eq_false, ↓reduceIte, Nat.reduceEqDiff, reduceCtorEq, Bool.false_eq_true]
theorem decF_len20 (n : Nat) : 1 ≤ (decF 20 n).length ∧ (decF 20 n).length ≤ 20 := digN_le n
theorem deci_Text_ans {v : Int} {s : Nat} (hv : inI v) (hs : s ≤ 18) : evL cfg n_deci_Text 0 [.d (.int .i64 (v)), .d (.int .i64 ((s : Int)))] [] = some (.d (.str (textS v s)), []) := by
  rw [o_deci_Text]
  have c1 := clampS hs
  have z1 := deci_size_ans hv
  have f1 := fmtU_ans (u := v.natAbs) (by unfold inI at hv; omega)
  unfold textS bodyS
  have hl := decF_len20 v.natAbs
  generalize decF 20 v.natAbs = d at *
  have r1 := repeat_ans (k := s + 1 - d.length) (by omega)
  have hp := padS_len d s
  have main : ∀ D : List UInt8, D.length = max (s + 1) d.length → D = padS d s → (d.length ≤ s → D = zer (s + 1 - d.length) ++ d) → (¬ d.length ≤ s → D = d) →
      go X_deci_Text [.c c_deci_Text] ⟨[(0, .d (.int .i64 (v))), (1, .d (.int .i64 ((s : Int))))], []⟩ = some (.d (.str (if v < 0 then 45 :: pointS D s else pointS D s)), []) := by
    intro D hD hpD h1 h2
    have e1 : ((D.length : Int) - (s : Int)).toNat = D.length - s := by omega
    unfold pointS
    by_cases hc : d.length ≤ s
    · have h1 := h1 hc
      have d_a : decide ((s : Int) + 1 - d.length > 0) = true := by simp <;> omega
      have e0 : (s : Int) + 1 - d.length = ((s + 1 - d.length : Nat) : Int) := by omega
      have e2 : (((s + 1 - d.length : Nat) : Int) > 0) = True := by simp; omega
      have d_a' : decide ((((s + 1 - d.length : Nat)) : Int) > 0) = true := by simp; omega
      have hz : (zer (s + 1 - d.length)).length ≤ 20 := by simp [zer]; omega
      rcases Bool.eq_false_or_eq_true (decide ((s : Int) > 0)) with d_b | d_b <;> have p_b := d_b <;> simp only [decide_eq_true_eq, decide_eq_false_iff_not, beq_iff_eq, beq_eq_false_iff_ne, ne_eq] at p_b <;> rcases Bool.eq_false_or_eq_true (decide (v < 0)) with d_g | d_g <;> have p_g := d_g <;> simp only [decide_eq_true_eq, decide_eq_false_iff_not, beq_iff_eq, beq_eq_false_iff_ne, ne_eq] at p_g 
      · rw [if_pos p_g, if_neg (by omega)]
        simp (disch := first | omega | (simp only [List.length_append, List.length_cons, List.length_nil, List.length_map, List.length_take, List.length_drop] <;> omega) | assumption | decide | (simp only [List.length_append, List.length_cons, List.length_nil, List.length_map] at * <;> omega) | fail) only [go_sem, wrap_i64, wrap_u64, X_deci_Text, c_deci_Text, c1, z1, f1, e0, d_a', r1, ← h1, e1, d_b, d_g, List.drop_zero, List.take_length, Bool.not_true, Bool.not_false, Bool.true_and, Bool.false_and, Bool.and_true, Bool.and_false, Bool.true_or, Bool.false_or, Bool.or_true, Bool.or_false, true_and, and_true, and_self, Nat.reduceLeDiff, Nat.reduceLT, Nat.reduceAdd, Nat.zero_lt_succ, Nat.lt_add_one, Option.some.injEq, Loc.slot.injEq, Int.reduceAdd, Int.reduceSub, Int.reduceMul, Int.reduceNeg, beq_self_eq_true, List.length_cons, List.length_nil, decide_true, decide_false, Bool.and_self, bne_self_eq_false, ↓reduceIte, Nat.reduceEqDiff, reduceCtorEq, Bool.false_eq_true]
      · rw [if_neg p_g, if_neg (by omega)]
        simp (disch := first | omega | (simp only [List.length_append, List.length_cons, List.length_nil, List.length_map, List.length_take, List.length_drop] <;> omega) | assumption | decide | (simp only [List.length_append, List.length_cons, List.length_nil, List.length_map] at * <;> omega) | fail) only [go_sem, wrap_i64, wrap_u64, X_deci_Text, c_deci_Text, c1, z1, f1, e0, d_a', r1, ← h1, e1, d_b, d_g, List.drop_zero, List.take_length, Bool.not_true, Bool.not_false, Bool.true_and, Bool.false_and, Bool.and_true, Bool.and_false, Bool.true_or, Bool.false_or, Bool.or_true, Bool.or_false, true_and, and_true, and_self, Nat.reduceLeDiff, Nat.reduceLT, Nat.reduceAdd, Nat.zero_lt_succ, Nat.lt_add_one, Option.some.injEq, Loc.slot.injEq, Int.reduceAdd, Int.reduceSub, Int.reduceMul, Int.reduceNeg, beq_self_eq_true, List.length_cons, List.length_nil, decide_true, decide_false, Bool.and_self, bne_self_eq_false, ↓reduceIte, Nat.reduceEqDiff, reduceCtorEq, Bool.false_eq_true]
      · rw [if_pos p_g, if_pos (by omega)]
        simp (disch := first | omega | (simp only [List.length_append, List.length_cons, List.length_nil, List.length_map, List.length_take, List.length_drop] <;> omega) | assumption | decide | (simp only [List.length_append, List.length_cons, List.length_nil, List.length_map] at * <;> omega) | fail) only [go_sem, wrap_i64, wrap_u64, X_deci_Text, c_deci_Text, c1, z1, f1, e0, d_a', r1, ← h1, e1, d_b, d_g, List.drop_zero, List.take_length, List.append_nil, Bool.not_true, Bool.not_false, Bool.true_and, Bool.false_and, Bool.and_true, Bool.and_false, Bool.true_or, Bool.false_or, Bool.or_true, Bool.or_false, true_and, and_true, and_self, Nat.reduceLeDiff, Nat.reduceLT, Nat.reduceAdd, Nat.zero_lt_succ, Nat.lt_add_one, Option.some.injEq, Loc.slot.injEq, Int.reduceAdd, Int.reduceSub, Int.reduceMul, Int.reduceNeg, beq_self_eq_true, List.length_cons, List.length_nil, decide_true, decide_false, Bool.and_self, bne_self_eq_false, ↓reduceIte, Nat.reduceEqDiff, reduceCtorEq, Bool.false_eq_true]
      · rw [if_neg p_g, if_pos (by omega)]
        simp (disch := first | omega | (simp only [List.length_append, List.length_cons, List.length_nil, List.length_map, List.length_take, List.length_drop] <;> omega) | assumption | decide | (simp only [List.length_append, List.length_cons, List.length_nil, List.length_map] at * <;> omega) | fail) only [go_sem, wrap_i64, wrap_u64, X_deci_Text, c_deci_Text, c1, z1, f1, e0, d_a', r1, ← h1, e1, d_b, d_g, List.drop_zero, List.take_length, List.append_nil, Bool.not_true, Bool.not_false, Bool.true_and, Bool.false_and, Bool.and_true, Bool.and_false, Bool.true_or, Bool.false_or, Bool.or_true, Bool.or_false, true_and, and_true, and_self, Nat.reduceLeDiff, Nat.reduceLT, Nat.reduceAdd, Nat.zero_lt_succ, Nat.lt_add_one, Option.some.injEq, Loc.slot.injEq, Int.reduceAdd, Int.reduceSub, Int.reduceMul, Int.reduceNeg, beq_self_eq_true, List.length_cons, List.length_nil, decide_true, decide_false, Bool.and_self, bne_self_eq_false, ↓reduceIte, Nat.reduceEqDiff, reduceCtorEq, Bool.false_eq_true]
    · have h2 := h2 hc
      subst h2
      have d_a : decide ((s : Int) + 1 - D.length > 0) = false := by simp <;> omega
      rcases Bool.eq_false_or_eq_true (decide ((s : Int) > 0)) with d_b | d_b <;> have p_b := d_b <;> simp only [decide_eq_true_eq, decide_eq_false_iff_not, beq_iff_eq, beq_eq_false_iff_ne, ne_eq] at p_b <;> rcases Bool.eq_false_or_eq_true (decide (v < 0)) with d_g | d_g <;> have p_g := d_g <;> simp only [decide_eq_true_eq, decide_eq_false_iff_not, beq_iff_eq, beq_eq_false_iff_ne, ne_eq] at p_g 
      · rw [if_pos p_g, if_neg (by omega)]
        simp (disch := first | omega | (simp only [List.length_append, List.length_cons, List.length_nil, List.length_map, List.length_take, List.length_drop] <;> omega) | assumption | decide | (simp only [List.length_append, List.length_cons, List.length_nil, List.length_map] at * <;> omega) | fail) only [go_sem, wrap_i64, wrap_u64, X_deci_Text, c_deci_Text, c1, z1, f1, d_a, e1, d_b, d_g, List.drop_zero, List.take_length, Bool.not_true, Bool.not_false, Bool.true_and, Bool.false_and, Bool.and_true, Bool.and_false, Bool.true_or, Bool.false_or, Bool.or_true, Bool.or_false, true_and, and_true, and_self, Nat.reduceLeDiff, Nat.reduceLT, Nat.reduceAdd, Nat.zero_lt_succ, Nat.lt_add_one, Option.some.injEq, Loc.slot.injEq, Int.reduceAdd, Int.reduceSub, Int.reduceMul, Int.reduceNeg, beq_self_eq_true, List.length_cons, List.length_nil, decide_true, decide_false, Bool.and_self, bne_self_eq_false, ↓reduceIte, Nat.reduceEqDiff, reduceCtorEq, Bool.false_eq_true]
      · rw [if_neg p_g, if_neg (by omega)]
        simp (disch := first | omega | (simp only [List.length_append, List.length_cons, List.length_nil, List.length_map, List.length_take, List.length_drop] <;> omega) | assumption | decide | (simp only [List.length_append, List.length_cons, List.length_nil, List.length_map] at * <;> omega) | fail) only [go_sem, wrap_i64, wrap_u64, X_deci_Text, c_deci_Text, c1, z1, f1, d_a, e1, d_b, d_g, List.drop_zero, List.take_length, Bool.not_true, Bool.not_false, Bool.true_and, Bool.false_and, Bool.and_true, Bool.and_false, Bool.true_or, Bool.false_or, Bool.or_true, Bool.or_false, true_and, and_true, and_self, Nat.reduceLeDiff, Nat.reduceLT, Nat.reduceAdd, Nat.zero_lt_succ, Nat.lt_add_one, Option.some.injEq, Loc.slot.injEq, Int.reduceAdd, Int.reduceSub, Int.reduceMul, Int.reduceNeg, beq_self_eq_true, List.length_cons, List.length_nil, decide_true, decide_false, Bool.and_self, bne_self_eq_false, ↓reduceIte, Nat.reduceEqDiff, reduceCtorEq, Bool.false_eq_true]
      · rw [if_pos p_g, if_pos (by omega)]
        simp (disch := first | omega | (simp only [List.length_append, List.length_cons, List.length_nil, List.length_map, List.length_take, List.length_drop] <;> omega) | assumption | decide | (simp only [List.length_append, List.length_cons, List.length_nil, List.length_map] at * <;> omega) | fail) only [go_sem, wrap_i64, wrap_u64, X_deci_Text, c_deci_Text, c1, z1, f1, d_a, e1, d_b, d_g, List.drop_zero, List.take_length, List.append_nil, Bool.not_true, Bool.not_false, Bool.true_and, Bool.false_and, Bool.and_true, Bool.and_false, Bool.true_or, Bool.false_or, Bool.or_true, Bool.or_false, true_and, and_true, and_self, Nat.reduceLeDiff, Nat.reduceLT, Nat.reduceAdd, Nat.zero_lt_succ, Nat.lt_add_one, Option.some.injEq, Loc.slot.injEq, Int.reduceAdd, Int.reduceSub, Int.reduceMul, Int.reduceNeg, beq_self_eq_true, List.length_cons, List.length_nil, decide_true, decide_false, Bool.and_self, bne_self_eq_false, ↓reduceIte, Nat.reduceEqDiff, reduceCtorEq, Bool.false_eq_true]
      · rw [if_neg p_g, if_pos (by omega)]
        simp (disch := first | omega | (simp only [List.length_append, List.length_cons, List.length_nil, List.length_map, List.length_take, List.length_drop] <;> omega) | assumption | decide | (simp only [List.length_append, List.length_cons, List.length_nil, List.length_map] at * <;> omega) | fail) only [go_sem, wrap_i64, wrap_u64, X_deci_Text, c_deci_Text, c1, z1, f1, d_a, e1, d_b, d_g, List.drop_zero, List.take_length, List.append_nil, Bool.not_true, Bool.not_false, Bool.true_and, Bool.false_and, Bool.and_true, Bool.and_false, Bool.true_or, Bool.false_or, Bool.or_true, Bool.or_false, true_and, and_true, and_self, Nat.reduceLeDiff, Nat.reduceLT, Nat.reduceAdd, Nat.zero_lt_succ, Nat.lt_add_one, Option.some.injEq, Loc.slot.injEq, Int.reduceAdd, Int.reduceSub, Int.reduceMul, Int.reduceNeg, beq_self_eq_true, List.length_cons, List.length_nil, decide_true, decide_false, Bool.and_self, bne_self_eq_false, ↓reduceIte, Nat.reduceEqDiff, reduceCtorEq, Bool.false_eq_true]
  exact main (padS d s) hp rfl (fun _ => rfl) (fun h => padS_done d s h)
theorem ref11_Text_loop (v : Int) (s : Nat) (hs : s ≤ 18) (K : List Kf) : ∀ (k : Nat) (d : List UInt8), s + 1 - d.length = k → d.length ≤ 20 →
    go X_ingotref11_Text (.c (.loop b_ingotref11_Text_4) :: .b 0 :: K) ⟨[(0, .d (.int .i64 (v))), (1, .d (.int .i64 ((s : Int)))), (5, .d (.str (d)))], []⟩ = go X_ingotref11_Text K ⟨[(0, .d (.int .i64 (v))), (1, .d (.int .i64 ((s : Int)))), (5, .d (.str (padS d s))), (12, .d (.bool (false)))], []⟩
  | 0, d, h, hd => by
    have d_a : decide ((d.length : Int) ≤ s) = false := by simp <;> omega
    rw [go_loop, padS_done d s (by omega)]
    simp (disch := first | omega | (simp only [List.length_append, List.length_cons, List.length_nil, List.length_map, List.length_take, List.length_drop] <;> omega) | assumption | decide | (simp only [List.length_append, List.length_cons, List.length_nil, List.length_map] at * <;> omega) | fail) only [go_sem, wrap_i64, wrap_u64, X_ingotref11_Text, d_a, Bool.not_true, Bool.not_false, Bool.true_and, Bool.false_and, Bool.and_true, Bool.and_false, Bool.true_or, Bool.false_or, Bool.or_true, Bool.or_false, true_and, and_true, and_self, Nat.reduceLeDiff, Nat.reduceLT, Nat.reduceAdd, Nat.zero_lt_succ, Nat.lt_add_one, Option.some.injEq, Loc.slot.injEq, Int.reduceAdd, Int.reduceSub, Int.reduceMul, Int.reduceNeg, beq_self_eq_true, List.length_cons, List.length_nil, decide_true, decide_false, Bool.and_self, bne_self_eq_false, ↓reduceIte, Nat.reduceEqDiff, reduceCtorEq, Bool.false_eq_true]
  | k + 1, d, h, hd => by
    have d_a : decide ((d.length : Int) ≤ s) = true := by simp <;> omega
    have ih := ref11_Text_loop v s hs K k (48 :: d) (by simp only [List.length_cons]; omega) (by simp only [List.length_cons]; omega)
    rw [padS_step d s (by omega)] at ih
    rw [go_loop]
    simp (disch := first | omega | (simp only [List.length_append, List.length_cons, List.length_nil, List.length_map, List.length_take, List.length_drop] <;> omega) | assumption | decide | (simp only [List.length_append, List.length_cons, List.length_nil, List.length_map] at * <;> omega) | fail) only [go_sem, wrap_i64, wrap_u64, X_ingotref11_Text, d_a, Bool.not_true, Bool.not_false, Bool.true_and, Bool.false_and, Bool.and_true, Bool.and_false, Bool.true_or, Bool.false_or, Bool.or_true, Bool.or_false, true_and, and_true, and_self, Nat.reduceLeDiff, Nat.reduceLT, Nat.reduceAdd, Nat.zero_lt_succ, Nat.lt_add_one, Option.some.injEq, Loc.slot.injEq, Int.reduceAdd, Int.reduceSub, Int.reduceMul, Int.reduceNeg, beq_self_eq_true, List.length_cons, List.length_nil, decide_true, decide_false, Bool.and_self, bne_self_eq_false, ↓reduceIte, Nat.reduceEqDiff, reduceCtorEq, Bool.false_eq_true]
    exact ih
theorem ref11_Text_ans {v : Int} {s : Nat} (hv : inI v) (hs : s ≤ 18) : evL cfg n_ingotref11_Text 0 [.d (.int .i64 (v)), .d (.int .i64 ((s : Int)))] [] = some (.d (.str (textS v s)), []) := by
  rw [o_ingotref11_Text]
  have z1 := ref11_size_ans hv
  have f1 := ref11_digits_ans (u := v.natAbs) (by unfold inI at hv; omega)
  unfold textS bodyS
  have hl := decF_len20 v.natAbs
  generalize decF 20 v.natAbs = d at *
  have hp := padS_len d s
  have lp := fun K => ref11_Text_loop v s hs K _ d rfl hl.2
  generalize padS d s = D at *
  have e1 : ((D.length : Int) - (s : Int)).toNat = D.length - s := by omega
  unfold pointS
  rcases Bool.eq_false_or_eq_true (decide ((s : Int) > 0)) with d_b | d_b <;> have p_b := d_b <;> simp only [decide_eq_true_eq, decide_eq_false_iff_not, beq_iff_eq, beq_eq_false_iff_ne, ne_eq] at p_b <;> rcases Bool.eq_false_or_eq_true (decide (v < 0)) with d_g | d_g <;> have p_g := d_g <;> simp only [decide_eq_true_eq, decide_eq_false_iff_not, beq_iff_eq, beq_eq_false_iff_ne, ne_eq] at p_g 
  · rw [if_pos p_g, if_neg (by omega)]
    simp (disch := first | omega | (simp only [List.length_append, List.length_cons, List.length_nil, List.length_map, List.length_take, List.length_drop] <;> omega) | assumption | decide | (simp only [List.length_append, List.length_cons, List.length_nil, List.length_map] at * <;> omega) | fail) only [go_sem, wrap_i64, wrap_u64, X_ingotref11_Text, c_ingotref11_Text, z1, f1, lp, e1, d_b, d_g, List.drop_zero, List.take_length, List.append_assoc, Bool.not_true, Bool.not_false, Bool.true_and, Bool.false_and, Bool.and_true, Bool.and_false, Bool.true_or, Bool.false_or, Bool.or_true, Bool.or_false, true_and, and_true, and_self, Nat.reduceLeDiff, Nat.reduceLT, Nat.reduceAdd, Nat.zero_lt_succ, Nat.lt_add_one, Option.some.injEq, Loc.slot.injEq, Int.reduceAdd, Int.reduceSub, Int.reduceMul, Int.reduceNeg, beq_self_eq_true, List.length_cons, List.length_nil, decide_true, decide_false, Bool.and_self, bne_self_eq_false, ↓reduceIte, Nat.reduceEqDiff, reduceCtorEq, Bool.false_eq_true]
  · rw [if_neg p_g, if_neg (by omega)]
    simp (disch := first | omega | (simp only [List.length_append, List.length_cons, List.length_nil, List.length_map, List.length_take, List.length_drop] <;> omega) | assumption | decide | (simp only [List.length_append, List.length_cons, List.length_nil, List.length_map] at * <;> omega) | fail) only [go_sem, wrap_i64, wrap_u64, X_ingotref11_Text, c_ingotref11_Text, z1, f1, lp, e1, d_b, d_g, List.drop_zero, List.take_length, List.append_assoc, Bool.not_true, Bool.not_false, Bool.true_and, Bool.false_and, Bool.and_true, Bool.and_false, Bool.true_or, Bool.false_or, Bool.or_true, Bool.or_false, true_and, and_true, and_self, Nat.reduceLeDiff, Nat.reduceLT, Nat.reduceAdd, Nat.zero_lt_succ, Nat.lt_add_one, Option.some.injEq, Loc.slot.injEq, Int.reduceAdd, Int.reduceSub, Int.reduceMul, Int.reduceNeg, beq_self_eq_true, List.length_cons, List.length_nil, decide_true, decide_false, Bool.and_self, bne_self_eq_false, ↓reduceIte, Nat.reduceEqDiff, reduceCtorEq, Bool.false_eq_true]
  · have hs0 : s = 0 := by omega
    subst hs0
    rw [if_pos p_g, if_pos rfl]
    simp (disch := first | omega | (simp only [List.length_append, List.length_cons, List.length_nil, List.length_map, List.length_take, List.length_drop] <;> omega) | assumption | decide | (simp only [List.length_append, List.length_cons, List.length_nil, List.length_map] at * <;> omega) | fail) only [go_sem, wrap_i64, wrap_u64, X_ingotref11_Text, c_ingotref11_Text, z1, f1, lp, d_b, d_g, Nat.sub_zero, List.take_length, List.append_nil, Bool.not_true, Bool.not_false, Bool.true_and, Bool.false_and, Bool.and_true, Bool.and_false, Bool.true_or, Bool.false_or, Bool.or_true, Bool.or_false, true_and, and_true, and_self, Nat.reduceLeDiff, Nat.reduceLT, Nat.reduceAdd, Nat.zero_lt_succ, Nat.lt_add_one, Option.some.injEq, Loc.slot.injEq, Int.reduceAdd, Int.reduceSub, Int.reduceMul, Int.reduceNeg, beq_self_eq_true, List.length_cons, List.length_nil, decide_true, decide_false, Bool.and_self, bne_self_eq_false, ↓reduceIte, Nat.reduceEqDiff, reduceCtorEq, Bool.false_eq_true]
  · have hs0 : s = 0 := by omega
    subst hs0
    rw [if_neg p_g, if_pos rfl]
    simp (disch := first | omega | (simp only [List.length_append, List.length_cons, List.length_nil, List.length_map, List.length_take, List.length_drop] <;> omega) | assumption | decide | (simp only [List.length_append, List.length_cons, List.length_nil, List.length_map] at * <;> omega) | fail) only [go_sem, wrap_i64, wrap_u64, X_ingotref11_Text, c_ingotref11_Text, z1, f1, lp, d_b, d_g, Nat.sub_zero, List.take_length, List.append_nil, Bool.not_true, Bool.not_false, Bool.true_and, Bool.false_and, Bool.and_true, Bool.and_false, Bool.true_or, Bool.false_or, Bool.or_true, Bool.or_false, true_and, and_true, and_self, Nat.reduceLeDiff, Nat.reduceLT, Nat.reduceAdd, Nat.zero_lt_succ, Nat.lt_add_one, Option.some.injEq, Loc.slot.injEq, Int.reduceAdd, Int.reduceSub, Int.reduceMul, Int.reduceNeg, beq_self_eq_true, List.length_cons, List.length_nil, decide_true, decide_false, Bool.and_self, bne_self_eq_false, ↓reduceIte, Nat.reduceEqDiff, reduceCtorEq, Bool.false_eq_true]

theorem deci_Digits_loop (u : Nat) : ∀ (n : Int) (tl : List (Nat × V)), u < 18446744073709551616 → 0 ≤ n → n + (digN u : Int) ≤ 1000 →
    go X_deci_Digits [.c (.loop b_deci_Digits_12), .b 4, .c (.exit 0), .b 0, .c (.seq r_deci_Digits_13 .ret)] ⟨(3, .d (.int .i64 (n))) :: (4, .d (.int .u64 ((u : Int)))) :: tl, []⟩ = some (.d (.int .i64 (n - 1 + (digN u : Int))), []) := by
  induction u using Nat.strongRecOn with
  | _ u ih =>
    intro n tl hu h0 h1
    by_cases c : u < 10
    · have d_a : decide ((u : Int) ≥ 10) = false := by simp <;> omega
      rw [go_loop, digN_small c, show n - 1 + ((1 : Nat) : Int) = n by omega]
      simp (disch := first | omega | (simp only [List.length_append, List.length_cons, List.length_nil, List.length_map, List.length_take, List.length_drop] <;> omega) | assumption | decide | (simp only [List.length_append, List.length_cons, List.length_nil, List.length_map] at * <;> omega) | fail) only [go_sem, wrap_i64, wrap_u64, X_deci_Digits, lk_st, d_a, Bool.not_true, Bool.not_false, Bool.true_and, Bool.false_and, Bool.and_true, Bool.and_false, Bool.true_or, Bool.false_or, Bool.or_true, Bool.or_false, true_and, and_true, and_self, Nat.reduceLeDiff, Nat.reduceLT, Nat.reduceAdd, Nat.zero_lt_succ, Nat.lt_add_one, Option.some.injEq, Loc.slot.injEq, Int.reduceAdd, Int.reduceSub, Int.reduceMul, Int.reduceNeg, beq_self_eq_true, List.length_cons, List.length_nil, decide_true, decide_false, Bool.and_self, bne_self_eq_false, ↓reduceIte, Nat.reduceEqDiff, reduceCtorEq, Bool.false_eq_true]
    · have d_a : decide ((u : Int) ≥ 10) = true := by simp <;> omega
      have hst := digN_step c (by omega)
      have i2 := ih (u / 10) (by omega) (n + 1) [] (by omega) (by omega) (by omega)
      have e1 : ((u : Int)).tdiv 10 = ((u / 10 : Nat) : Int) := by rw [tdp (by omega)]; omega
      rw [show n + 1 - 1 + (digN (u / 10) : Int) = n - 1 + (digN u : Int) by omega] at i2
      rw [go_loop]
      simp (disch := first | omega | (simp only [List.length_append, List.length_cons, List.length_nil, List.length_map, List.length_take, List.length_drop] <;> omega) | assumption | decide | (simp only [List.length_append, List.length_cons, List.length_nil, List.length_map] at * <;> omega) | fail) only [go_sem, wrap_i64, wrap_u64, X_deci_Digits, lk_st, d_a, ib_quo, e1, Bool.not_true, Bool.not_false, Bool.true_and, Bool.false_and, Bool.and_true, Bool.and_false, Bool.true_or, Bool.false_or, Bool.or_true, Bool.or_false, true_and, and_true, and_self, Nat.reduceLeDiff, Nat.reduceLT, Nat.reduceAdd, Nat.zero_lt_succ, Nat.lt_add_one, Option.some.injEq, Loc.slot.injEq, Int.reduceAdd, Int.reduceSub, Int.reduceMul, Int.reduceNeg, beq_self_eq_true, List.length_cons, List.length_nil, decide_true, decide_false, Bool.and_self, bne_self_eq_false, ↓reduceIte, Nat.reduceEqDiff, reduceCtorEq, Bool.false_eq_true]
      exact i2
theorem deci_Digits_ans {v : Int} (hv : inI v) : evL cfg n_deci_Digits 0 [.d (.int .i64 (v))] [] = some (.d (.int .i64 ((digN v.natAbs : Int))), []) := by
  rw [o_deci_Digits]
  have z1 := deci_size_ans hv
  have hu : v.natAbs < 18446744073709551616 := by unfold inI at hv; omega
  generalize v.natAbs = u at *
  have e8 : ∀ u : Nat, ((u : Int)).tdiv 100000000 = ((u / 100000000 : Nat) : Int) := fun u => by rw [tdp (by omega)]; omega
  have hd := digN_le u
  by_cases c1 : 10000000000000000 ≤ u
  · have d_a : decide ((u : Int) ≥ 10000000000000000) = true := by simp <;> omega
    have h1 := digN_eight (n := u) (by omega) (by omega)
    have h2 := digN_eight (n := u / 100000000) (by omega) (by omega)
    have hl := deci_Digits_loop (u / 100000000 / 100000000) 17 [] (by omega) (by omega) (by omega)
    rw [show (17 : Int) - 1 + (digN (u / 100000000 / 100000000) : Int) = (digN u : Int) by omega] at hl
    simp (disch := first | omega | (simp only [List.length_append, List.length_cons, List.length_nil, List.length_map, List.length_take, List.length_drop] <;> omega) | assumption | decide | (simp only [List.length_append, List.length_cons, List.length_nil, List.length_map] at * <;> omega) | fail) only [go_sem, wrap_i64, wrap_u64, X_deci_Digits, c_deci_Digits, z1, d_a, ib_quo, e8, hl, Bool.not_true, Bool.not_false, Bool.true_and, Bool.false_and, Bool.and_true, Bool.and_false, Bool.true_or, Bool.false_or, Bool.or_true, Bool.or_false, true_and, and_true, and_self, Nat.reduceLeDiff, Nat.reduceLT, Nat.reduceAdd, Nat.zero_lt_succ, Nat.lt_add_one, Option.some.injEq, Loc.slot.injEq, Int.reduceAdd, Int.reduceSub, Int.reduceMul, Int.reduceNeg, beq_self_eq_true, List.length_cons, List.length_nil, decide_true, decide_false, Bool.and_self, bne_self_eq_false, ↓reduceIte, Nat.reduceEqDiff, reduceCtorEq, Bool.false_eq_true]
  · have d_a : decide ((u : Int) ≥ 10000000000000000) = false := by simp <;> omega
    by_cases c2 : 100000000 ≤ u
    · have d_b : decide ((u : Int) ≥ 100000000) = true := by simp <;> omega
      have h1 := digN_eight (n := u) (by omega) (by omega)
      have hl := deci_Digits_loop (u / 100000000) 9 [] (by omega) (by omega) (by omega)
      rw [show (9 : Int) - 1 + (digN (u / 100000000) : Int) = (digN u : Int) by omega] at hl
      simp (disch := first | omega | (simp only [List.length_append, List.length_cons, List.length_nil, List.length_map, List.length_take, List.length_drop] <;> omega) | assumption | decide | (simp only [List.length_append, List.length_cons, List.length_nil, List.length_map] at * <;> omega) | fail) only [go_sem, wrap_i64, wrap_u64, X_deci_Digits, c_deci_Digits, z1, d_a, d_b, ib_quo, e8, hl, Bool.not_true, Bool.not_false, Bool.true_and, Bool.false_and, Bool.and_true, Bool.and_false, Bool.true_or, Bool.false_or, Bool.or_true, Bool.or_false, true_and, and_true, and_self, Nat.reduceLeDiff, Nat.reduceLT, Nat.reduceAdd, Nat.zero_lt_succ, Nat.lt_add_one, Option.some.injEq, Loc.slot.injEq, Int.reduceAdd, Int.reduceSub, Int.reduceMul, Int.reduceNeg, beq_self_eq_true, List.length_cons, List.length_nil, decide_true, decide_false, Bool.and_self, bne_self_eq_false, ↓reduceIte, Nat.reduceEqDiff, reduceCtorEq, Bool.false_eq_true]
    · have d_b : decide ((u : Int) ≥ 100000000) = false := by simp <;> omega
      have hl := deci_Digits_loop u 1 [(10, .d (.bool false))] (by omega) (by omega) (by omega)
      rw [show (1 : Int) - 1 + (digN u : Int) = (digN u : Int) by omega] at hl
      simp (disch := first | omega | (simp only [List.length_append, List.length_cons, List.length_nil, List.length_map, List.length_take, List.length_drop] <;> omega) | assumption | decide | (simp only [List.length_append, List.length_cons, List.length_nil, List.length_map] at * <;> omega) | fail) only [go_sem, wrap_i64, wrap_u64, X_deci_Digits, c_deci_Digits, z1, d_a, d_b, ib_quo, e8, hl, Bool.not_true, Bool.not_false, Bool.true_and, Bool.false_and, Bool.and_true, Bool.and_false, Bool.true_or, Bool.false_or, Bool.or_true, Bool.or_false, true_and, and_true, and_self, Nat.reduceLeDiff, Nat.reduceLT, Nat.reduceAdd, Nat.zero_lt_succ, Nat.lt_add_one, Option.some.injEq, Loc.slot.injEq, Int.reduceAdd, Int.reduceSub, Int.reduceMul, Int.reduceNeg, beq_self_eq_true, List.length_cons, List.length_nil, decide_true, decide_false, Bool.and_self, bne_self_eq_false, ↓reduceIte, Nat.reduceEqDiff, reduceCtorEq, Bool.false_eq_true]
theorem ref11_Digits_ans {v : Int} (hv : inI v) : evL cfg n_ingotref11_Digits 0 [.d (.int .i64 (v))] [] = some (.d (.int .i64 ((digN v.natAbs : Int))), []) := by
  rw [o_ingotref11_Digits]
  have z1 := ref11_size_ans hv
  have f1 := ref11_digits_ans (u := v.natAbs) (by unfold inI at hv; omega)
  simp (disch := first | omega | (simp only [List.length_append, List.length_cons, List.length_nil, List.length_map, List.length_take, List.length_drop] <;> omega) | assumption | decide | (simp only [List.length_append, List.length_cons, List.length_nil, List.length_map] at * <;> omega) | fail) only [go_sem, wrap_i64, wrap_u64, X_ingotref11_Digits, c_ingotref11_Digits, z1, f1, Bool.not_true, Bool.not_false, Bool.true_and, Bool.false_and, Bool.and_true, Bool.and_false, Bool.true_or, Bool.false_or, Bool.or_true, Bool.or_false, true_and, and_true, and_self, Nat.reduceLeDiff, Nat.reduceLT, Nat.reduceAdd, Nat.zero_lt_succ, Nat.lt_add_one, Option.some.injEq, Loc.slot.injEq, Int.reduceAdd, Int.reduceSub, Int.reduceMul, Int.reduceNeg, beq_self_eq_true, List.length_cons, List.length_nil, decide_true, decide_false, Bool.and_self, bne_self_eq_false, ↓reduceIte, Nat.reduceEqDiff, reduceCtorEq, Bool.false_eq_true]
  rfl

/-! reading -/
theorem trim_ans {t : List UInt8} (h : t.length ≤ 1000) : evL cfg n_strings_Trim 0 [.d (.str (t)), .d (.str ([48, 49, 50, 51, 52, 53, 54, 55, 56, 57]))] [] = some (.d (.str (Lib.trimS t [48, 49, 50, 51, 52, 53, 54, 55, 56, 57])), []) := by
  rw [evL_ext (g := xTrim) rfl]
  have e : allD [.d (.str (t)), .d (.str ([48, 49, 50, 51, 52, 53, 54, 55, 56, 57]))] = some [.str t, .str [48, 49, 50, 51, 52, 53, 54, 55, 56, 57]] := rfl
  rw [e]
  simp only [Option.bind_some, xTrim]
  have c : t.length ≤ 1000000 ∧ ([48, 49, 50, 51, 52, 53, 54, 55, 56, 57] : List UInt8).length ≤ 1000 ∧ ascii [48, 49, 50, 51, 52, 53, 54, 55, 56, 57] = true := ⟨by omega, by decide, by decide⟩
  rw [if_pos c]
  rfl
theorem deci_plain_ans {t : List UInt8} (h : t.length ≤ 1000) : evL cfg n_deci_plain 0 [.d (.str (t))] [] = some (.d (.bool (plainB t)), []) := by
  rw [o_deci_plain]
  have ht := trim_ans h
  have hd := trim_dig t
  unfold plainB
  cases t with
  | nil => simp (disch := first | omega | (simp only [List.length_append, List.length_cons, List.length_nil, List.length_map, List.length_take, List.length_drop] <;> omega) | assumption | decide | (simp only [List.length_append, List.length_cons, List.length_nil, List.length_map] at * <;> omega) | fail) only [go_sem, wrap_i64, wrap_u64, X_deci_plain, c_deci_plain, ht, hd, show (([] : List UInt8) == []) = true by rfl, Bool.not_true, Bool.not_false, Bool.true_and, Bool.false_and, Bool.and_true, Bool.and_false, Bool.true_or, Bool.false_or, Bool.or_true, Bool.or_false, true_and, and_true, and_self, Nat.reduceLeDiff, Nat.reduceLT, Nat.reduceAdd, Nat.zero_lt_succ, Nat.lt_add_one, Option.some.injEq, Loc.slot.injEq, Int.reduceAdd, Int.reduceSub, Int.reduceMul, Int.reduceNeg, beq_self_eq_true, List.length_cons, List.length_nil, decide_true, decide_false, Bool.and_self, bne_self_eq_false, ↓reduceIte, Nat.reduceEqDiff, reduceCtorEq, Bool.false_eq_true]; rfl
  | cons c t => simp (disch := first | omega | (simp only [List.length_append, List.length_cons, List.length_nil, List.length_map, List.length_take, List.length_drop] <;> omega) | assumption | decide | (simp only [List.length_append, List.length_cons, List.length_nil, List.length_map] at * <;> omega) | fail) only [go_sem, wrap_i64, wrap_u64, X_deci_plain, c_deci_plain, ht, hd, show ((c :: t) == []) = false by rfl, Bool.not_true, Bool.not_false, Bool.true_and, Bool.false_and, Bool.and_true, Bool.and_false, Bool.true_or, Bool.false_or, Bool.or_true, Bool.or_false, true_and, and_true, and_self, Nat.reduceLeDiff, Nat.reduceLT, Nat.reduceAdd, Nat.zero_lt_succ, Nat.lt_add_one, Option.some.injEq, Loc.slot.injEq, Int.reduceAdd, Int.reduceSub, Int.reduceMul, Int.reduceNeg, beq_self_eq_true, List.length_cons, List.length_nil, decide_true, decide_false, Bool.and_self, bne_self_eq_false, ↓reduceIte, Nat.reduceEqDiff, reduceCtorEq, Bool.false_eq_true]; rfl
theorem index_ans (t : List UInt8) : evL cfg n_stringslite_Index 0 [.d (.str (t)), .d (.str ([46]))] [] = some (.d (.int .i64 (Lib.indexByte t 46)), []) := by
  rw [evL_ext (g := xIndex1) rfl]
  rfl
theorem lite_Cut_ans (t : List UInt8) (h : t.length ≤ 1000) : evL cfg n_stringslite_Cut 0 [.d (.str (t)), .d (.str ([46]))] [] = some (.d (.tup [.str (cutM t).1, .str (cutM t).2.1, .bool (cutM t).2.2]), []) := by
  rw [o_stringslite_Cut]
  have hi := index_ans t
  have hx := index_cut t
  have hb := cutM_back t
  generalize cutM t = q at *
  obtain ⟨w, p, pt⟩ := q
  simp only at *
  cases pt
  · simp only [Bool.false_eq_true, if_false] at hx hb
    rw [hx] at hi
    have hp := hb.2 trivial
    have ht : t = w := by simpa using hb.1
    subst ht
    subst hp
    simp (disch := first | omega | (simp only [List.length_append, List.length_cons, List.length_nil, List.length_map, List.length_take, List.length_drop] <;> omega) | assumption | decide | (simp only [List.length_append, List.length_cons, List.length_nil, List.length_map] at * <;> omega) | fail) only [go_sem, wrap_i64, wrap_u64, X_stringslite_Cut, c_stringslite_Cut, hi, show decide ((-1 : Int) ≥ 0) = false by decide, Bool.not_true, Bool.not_false, Bool.true_and, Bool.false_and, Bool.and_true, Bool.and_false, Bool.true_or, Bool.false_or, Bool.or_true, Bool.or_false, true_and, and_true, and_self, Nat.reduceLeDiff, Nat.reduceLT, Nat.reduceAdd, Nat.zero_lt_succ, Nat.lt_add_one, Option.some.injEq, Loc.slot.injEq, Int.reduceAdd, Int.reduceSub, Int.reduceMul, Int.reduceNeg, beq_self_eq_true, List.length_cons, List.length_nil, decide_true, decide_false, Bool.and_self, bne_self_eq_false, ↓reduceIte, Nat.reduceEqDiff, reduceCtorEq, Bool.false_eq_true]
  · simp only [if_true] at hx hb
    rw [hx] at hi
    have ht : t = w ++ 46 :: p := hb.1
    have hlen : t.length = w.length + (p.length + 1) := by rw [ht]; simp
    have d_a : decide ((w.length : Int) ≥ 0) = true := by simp <;> omega
    have e1 : t.take w.length = w := by rw [ht]; simp
    have e2 : t.drop (w.length + 1) = p := by rw [ht, ← List.drop_drop]; simp
    have e3 : ((w.length : Int) + 1).toNat = w.length + 1 := by omega
    simp (disch := first | omega | (simp only [List.length_append, List.length_cons, List.length_nil, List.length_map, List.length_take, List.length_drop] <;> omega) | assumption | decide | (simp only [List.length_append, List.length_cons, List.length_nil, List.length_map] at * <;> omega) | fail) only [go_sem, wrap_i64, wrap_u64, X_stringslite_Cut, c_stringslite_Cut, hi, d_a, Int.toNat_natCast, show ((1 : Nat) : Int) = 1 by rfl, e1, e2, e3, List.drop_zero, List.take_length, Bool.not_true, Bool.not_false, Bool.true_and, Bool.false_and, Bool.and_true, Bool.and_false, Bool.true_or, Bool.false_or, Bool.or_true, Bool.or_false, true_and, and_true, and_self, Nat.reduceLeDiff, Nat.reduceLT, Nat.reduceAdd, Nat.zero_lt_succ, Nat.lt_add_one, Option.some.injEq, Loc.slot.injEq, Int.reduceAdd, Int.reduceSub, Int.reduceMul, Int.reduceNeg, beq_self_eq_true, List.length_cons, List.length_nil, decide_true, decide_false, Bool.and_self, bne_self_eq_false, ↓reduceIte, Nat.reduceEqDiff, reduceCtorEq, Bool.false_eq_true]
theorem strings_Cut_ans (t : List UInt8) (h : t.length ≤ 1000) : evL cfg n_strings_Cut 0 [.d (.str (t)), .d (.str ([46]))] [] = some (.d (.tup [.str (cutM t).1, .str (cutM t).2.1, .bool (cutM t).2.2]), []) := by
  rw [o_strings_Cut]
  have h1 := lite_Cut_ans t h
  simp (disch := first | omega | (simp only [List.length_append, List.length_cons, List.length_nil, List.length_map, List.length_take, List.length_drop] <;> omega) | assumption | decide | (simp only [List.length_append, List.length_cons, List.length_nil, List.length_map] at * <;> omega) | fail) only [go_sem, wrap_i64, wrap_u64, X_strings_Cut, c_strings_Cut, h1, Bool.not_true, Bool.not_false, Bool.true_and, Bool.false_and, Bool.and_true, Bool.and_false, Bool.true_or, Bool.false_or, Bool.or_true, Bool.or_false, true_and, and_true, and_self, Nat.reduceLeDiff, Nat.reduceLT, Nat.reduceAdd, Nat.zero_lt_succ, Nat.lt_add_one, Option.some.injEq, Loc.slot.injEq, Int.reduceAdd, Int.reduceSub, Int.reduceMul, Int.reduceNeg, beq_self_eq_true, List.length_cons, List.length_nil, decide_true, decide_false, Bool.and_self, bne_self_eq_false, ↓reduceIte, Nat.reduceEqDiff, reduceCtorEq, Bool.false_eq_true]
theorem lite_HasPrefix_ans (t : List UInt8) (h : t.length ≤ 1000) : evL cfg n_stringslite_HasPrefix 0 [.d (.str (t)), .d (.str ([45]))] [] = some (.d (.bool (decide (t.head? = some 45))), []) := by
  rw [o_stringslite_HasPrefix]
  cases t with
  | nil => simp (disch := first | omega | (simp only [List.length_append, List.length_cons, List.length_nil, List.length_map, List.length_take, List.length_drop] <;> omega) | assumption | decide | (simp only [List.length_append, List.length_cons, List.length_nil, List.length_map] at * <;> omega) | fail) only [go_sem, wrap_i64, wrap_u64, X_stringslite_HasPrefix, c_stringslite_HasPrefix, show decide (((0 : Nat) : Int) ≥ ((1 : Nat) : Int)) = false by decide, Bool.not_true, Bool.not_false, Bool.true_and, Bool.false_and, Bool.and_true, Bool.and_false, Bool.true_or, Bool.false_or, Bool.or_true, Bool.or_false, true_and, and_true, and_self, Nat.reduceLeDiff, Nat.reduceLT, Nat.reduceAdd, Nat.zero_lt_succ, Nat.lt_add_one, Option.some.injEq, Loc.slot.injEq, Int.reduceAdd, Int.reduceSub, Int.reduceMul, Int.reduceNeg, beq_self_eq_true, List.length_cons, List.length_nil, decide_true, decide_false, Bool.and_self, bne_self_eq_false, ↓reduceIte, Nat.reduceEqDiff, reduceCtorEq, Bool.false_eq_true]; rfl
  | cons c t =>
    have d_a : decide (((t.length + 1 : Nat) : Int) ≥ 1) = true := by simp <;> omega
    have e : (([c] : List UInt8) == [45]) = decide ((c :: t).head? = some 45) := by
      by_cases hc : c = 45
      · subst hc; rfl
      · simp [hc]
    simp (disch := first | omega | (simp only [List.length_append, List.length_cons, List.length_nil, List.length_map, List.length_take, List.length_drop] <;> omega) | assumption | decide | (simp only [List.length_append, List.length_cons, List.length_nil, List.length_map] at * <;> omega) | fail) only [go_sem, wrap_i64, wrap_u64, X_stringslite_HasPrefix, c_stringslite_HasPrefix, d_a, show ((0 + 1 : Nat) : Int) = 1 by rfl, show ((1 : Nat) : Int) = 1 by rfl, show (1 : Int).toNat = 1 by rfl, List.take_succ_cons, List.take_zero, List.drop_zero, e, Bool.not_true, Bool.not_false, Bool.true_and, Bool.false_and, Bool.and_true, Bool.and_false, Bool.true_or, Bool.false_or, Bool.or_true, Bool.or_false, true_and, and_true, and_self, Nat.reduceLeDiff, Nat.reduceLT, Nat.reduceAdd, Nat.zero_lt_succ, Nat.lt_add_one, Option.some.injEq, Loc.slot.injEq, Int.reduceAdd, Int.reduceSub, Int.reduceMul, Int.reduceNeg, beq_self_eq_true, List.length_cons, List.length_nil, decide_true, decide_false, Bool.and_self, bne_self_eq_false, ↓reduceIte, Nat.reduceEqDiff, reduceCtorEq, Bool.false_eq_true]
theorem lite_CutPrefix_ans (t : List UInt8) (h : t.length ≤ 1000) : evL cfg n_stringslite_CutPrefix 0 [.d (.str (t)), .d (.str ([45]))] [] = some (.d (.tup [.str (restS t), .bool (decide (t.head? = some 45))]), []) := by
  rw [o_stringslite_CutPrefix]
  have h1 := lite_HasPrefix_ans t h
  unfold restS
  by_cases c : t.head? = some 45
  · rw [decide_eq_true c] at h1 ⊢
    rw [if_pos c]
    cases t with
    | nil => cases c
    | cons x t =>
      simp (disch := first | omega | (simp only [List.length_append, List.length_cons, List.length_nil, List.length_map, List.length_take, List.length_drop] <;> omega) | assumption | decide | (simp only [List.length_append, List.length_cons, List.length_nil, List.length_map] at * <;> omega) | fail) only [go_sem, wrap_i64, wrap_u64, X_stringslite_CutPrefix, c_stringslite_CutPrefix, h1, show ((0 + 1 : Nat) : Int) = 1 by rfl, show ((1 : Nat) : Int) = 1 by rfl, show (1 : Int).toNat = 1 by rfl, List.take_length, List.drop_succ_cons, List.drop_zero, List.tail_cons, List.take_succ_cons, Bool.not_true, Bool.not_false, Bool.true_and, Bool.false_and, Bool.and_true, Bool.and_false, Bool.true_or, Bool.false_or, Bool.or_true, Bool.or_false, true_and, and_true, and_self, Nat.reduceLeDiff, Nat.reduceLT, Nat.reduceAdd, Nat.zero_lt_succ, Nat.lt_add_one, Option.some.injEq, Loc.slot.injEq, Int.reduceAdd, Int.reduceSub, Int.reduceMul, Int.reduceNeg, beq_self_eq_true, List.length_cons, List.length_nil, decide_true, decide_false, Bool.and_self, bne_self_eq_false, ↓reduceIte, Nat.reduceEqDiff, reduceCtorEq, Bool.false_eq_true]
  · rw [decide_eq_false c] at h1 ⊢
    rw [if_neg c]
    simp (disch := first | omega | (simp only [List.length_append, List.length_cons, List.length_nil, List.length_map, List.length_take, List.length_drop] <;> omega) | assumption | decide | (simp only [List.length_append, List.length_cons, List.length_nil, List.length_map] at * <;> omega) | fail) only [go_sem, wrap_i64, wrap_u64, X_stringslite_CutPrefix, c_stringslite_CutPrefix, h1, Bool.not_true, Bool.not_false, Bool.true_and, Bool.false_and, Bool.and_true, Bool.and_false, Bool.true_or, Bool.false_or, Bool.or_true, Bool.or_false, true_and, and_true, and_self, Nat.reduceLeDiff, Nat.reduceLT, Nat.reduceAdd, Nat.zero_lt_succ, Nat.lt_add_one, Option.some.injEq, Loc.slot.injEq, Int.reduceAdd, Int.reduceSub, Int.reduceMul, Int.reduceNeg, beq_self_eq_true, List.length_cons, List.length_nil, decide_true, decide_false, Bool.and_self, bne_self_eq_false, ↓reduceIte, Nat.reduceEqDiff, reduceCtorEq, Bool.false_eq_true]
theorem strings_CutPrefix_ans (t : List UInt8) (h : t.length ≤ 1000) : evL cfg n_strings_CutPrefix 0 [.d (.str (t)), .d (.str ([45]))] [] = some (.d (.tup [.str (restS t), .bool (decide (t.head? = some 45))]), []) := by
  rw [o_strings_CutPrefix]
  have h1 := lite_CutPrefix_ans t h
  simp (disch := first | omega | (simp only [List.length_append, List.length_cons, List.length_nil, List.length_map, List.length_take, List.length_drop] <;> omega) | assumption | decide | (simp only [List.length_append, List.length_cons, List.length_nil, List.length_map] at * <;> omega) | fail) only [go_sem, wrap_i64, wrap_u64, X_strings_CutPrefix, c_strings_CutPrefix, h1, Bool.not_true, Bool.not_false, Bool.true_and, Bool.false_and, Bool.and_true, Bool.and_false, Bool.true_or, Bool.false_or, Bool.or_true, Bool.or_false, true_and, and_true, and_self, Nat.reduceLeDiff, Nat.reduceLT, Nat.reduceAdd, Nat.zero_lt_succ, Nat.lt_add_one, Option.some.injEq, Loc.slot.injEq, Int.reduceAdd, Int.reduceSub, Int.reduceMul, Int.reduceNeg, beq_self_eq_true, List.length_cons, List.length_nil, decide_true, decide_false, Bool.and_self, bne_self_eq_false, ↓reduceIte, Nat.reduceEqDiff, reduceCtorEq, Bool.false_eq_true]
theorem foldV_in : ∀ (l : List UInt8) (neg : Bool) (v : Int), inI v → inI (foldV neg v l).1 ∧ (foldV neg v l).2 ≤ 4
  | [], _, v, h => ⟨h, by simp [foldV]⟩
  | c :: r, neg, v, h => by
    unfold foldV
    split
    · rename_i hq
      refine foldV_in r neg _ ?_
      have h2 := hq.2
      unfold addM at h2 ⊢
      split
      · rename_i hi; exact hi
      · unfold inI; simp
    · exact ⟨by unfold inI; simp, by simp⟩
theorem deci_Parse_loop (neg : Bool) (L : List UInt8) (hL : L.all digB = true) (hlen : L.length ≤ 10000) : ∀ (r : List UInt8) (i : Nat) (v : Int), L.drop i = r → i ≤ L.length → inI v →
    go X_deci_Parse [.c (.loop b_deci_Parse_21), .b 1, .c (.seq r_deci_Parse_22 .ret)] ⟨[(7, .d (.bool (neg))), (11, .d (.int .i64 (v))), (59, .d (.sl ((L).map byteD))), (60, .d (.int .i64 ((L.length : Int)))), (61, .d (.int .i64 ((i : Int))))], []⟩ = some (.d (.tup [.int .i64 (foldV neg v r).1, .int .i64 ((foldV neg v r).2 : Int)]), [])
  | [], i, v, hr, hi, hv => by
    have : L.length ≤ i := by simpa using hr
    have d_a : decide ((i : Int) < L.length) = false := by simp <;> omega
    rw [go_loop]
    simp (disch := first | omega | (simp only [List.length_append, List.length_cons, List.length_nil, List.length_map, List.length_take, List.length_drop] <;> omega) | assumption | decide | (simp only [List.length_append, List.length_cons, List.length_nil, List.length_map] at * <;> omega) | fail) only [go_sem, wrap_i64, wrap_u64, X_deci_Parse, d_a, Bool.not_true, Bool.not_false, Bool.true_and, Bool.false_and, Bool.and_true, Bool.and_false, Bool.true_or, Bool.false_or, Bool.or_true, Bool.or_false, true_and, and_true, and_self, Nat.reduceLeDiff, Nat.reduceLT, Nat.reduceAdd, Nat.zero_lt_succ, Nat.lt_add_one, Option.some.injEq, Loc.slot.injEq, Int.reduceAdd, Int.reduceSub, Int.reduceMul, Int.reduceNeg, beq_self_eq_true, List.length_cons, List.length_nil, decide_true, decide_false, Bool.and_self, bne_self_eq_false, ↓reduceIte, Nat.reduceEqDiff, reduceCtorEq, Bool.false_eq_true]
    rfl
  | c :: r, i, v, hr, hi, hv => by
    obtain ⟨hlt, hc, hr'⟩ := drop_at hr
    have hdig := List.all_eq_true.1 hL c (List.mem_of_getElem? hc)
    unfold digB at hdig
    simp at hdig
    have d_a : decide ((i : Int) < L.length) = true := by simp <;> omega
    have hm := nums_Mul_ans (a := v) (b := 10) hv (by unfold inI; omega)
    have hmi : inI (mulM v 10).1 := by unfold mulM; split <;> first | assumption | (unfold inI; simp)
    have hsg : inI (sgn neg ((c.toNat : Int) - 48)) := by unfold sgn inI; split <;> omega
    have ha := nums_Add_ans (a := (mulM v 10).1) (b := sgn neg ((c.toNat : Int) - 48)) hmi hsg
    have hai : inI (addM (mulM v 10).1 (sgn neg ((c.toNat : Int) - 48))).1 := by unfold addM; split <;> first | assumption | (unfold inI; simp)
    have w1 := wrap_u8 (n := (c.toNat : Int) - 48) (by omega) (by omega)
    rw [go_loop]
    unfold foldV
    by_cases hq : (mulM v 10).2 = true ∧ (addM (mulM v 10).1 (sgn neg ((c.toNat : Int) - 48))).2 = true
    · rw [if_pos hq]
      have ih := deci_Parse_loop neg L hL hlen r (i + 1) (addM (mulM v 10).1 (sgn neg ((c.toNat : Int) - 48))).1 hr' (by omega) hai
      rw [show (((i + 1 : Nat)) : Int) = (i : Int) + 1 by omega] at ih
      rw [hq.1] at hm
      rw [hq.2] at ha
      cases neg
      · simp only [sgn, Bool.false_eq_true, if_false] at *
        simp (disch := first | omega | (simp only [List.length_append, List.length_cons, List.length_nil, List.length_map, List.length_take, List.length_drop] <;> omega) | assumption | decide | (simp only [List.length_append, List.length_cons, List.length_nil, List.length_map] at * <;> omega) | fail) only [go_sem, wrap_i64, wrap_u64, X_deci_Parse, d_a, hc, byteD_eq, w1, hm, ha, Bool.not_true, Bool.not_false, Bool.true_and, Bool.false_and, Bool.and_true, Bool.and_false, Bool.true_or, Bool.false_or, Bool.or_true, Bool.or_false, true_and, and_true, and_self, Nat.reduceLeDiff, Nat.reduceLT, Nat.reduceAdd, Nat.zero_lt_succ, Nat.lt_add_one, Option.some.injEq, Loc.slot.injEq, Int.reduceAdd, Int.reduceSub, Int.reduceMul, Int.reduceNeg, beq_self_eq_true, List.length_cons, List.length_nil, decide_true, decide_false, Bool.and_self, bne_self_eq_false, ↓reduceIte, Nat.reduceEqDiff, reduceCtorEq, Bool.false_eq_true]
        exact ih
      · simp only [sgn, if_true] at *
        simp (disch := first | omega | (simp only [List.length_append, List.length_cons, List.length_nil, List.length_map, List.length_take, List.length_drop] <;> omega) | assumption | decide | (simp only [List.length_append, List.length_cons, List.length_nil, List.length_map] at * <;> omega) | fail) only [go_sem, wrap_i64, wrap_u64, X_deci_Parse, d_a, hc, byteD_eq, w1, hm, ha, Bool.not_true, Bool.not_false, Bool.true_and, Bool.false_and, Bool.and_true, Bool.and_false, Bool.true_or, Bool.false_or, Bool.or_true, Bool.or_false, true_and, and_true, and_self, Nat.reduceLeDiff, Nat.reduceLT, Nat.reduceAdd, Nat.zero_lt_succ, Nat.lt_add_one, Option.some.injEq, Loc.slot.injEq, Int.reduceAdd, Int.reduceSub, Int.reduceMul, Int.reduceNeg, beq_self_eq_true, List.length_cons, List.length_nil, decide_true, decide_false, Bool.and_self, bne_self_eq_false, ↓reduceIte, Nat.reduceEqDiff, reduceCtorEq, Bool.false_eq_true]
        exact ih
    · rw [if_neg hq]
      by_cases q1 : (mulM v 10).2 = true
      · have q2 : (addM (mulM v 10).1 (sgn neg ((c.toNat : Int) - 48))).2 = false := by
          rw [← Bool.not_eq_true]
          exact fun e => hq ⟨q1, e⟩
        rw [q1] at hm
        rw [q2] at ha
        cases neg
        · simp only [sgn, Bool.false_eq_true, if_false] at *
          simp (disch := first | omega | (simp only [List.length_append, List.length_cons, List.length_nil, List.length_map, List.length_take, List.length_drop] <;> omega) | assumption | decide | (simp only [List.length_append, List.length_cons, List.length_nil, List.length_map] at * <;> omega) | fail) only [go_sem, wrap_i64, wrap_u64, X_deci_Parse, d_a, hc, byteD_eq, w1, hm, ha, Bool.not_true, Bool.not_false, Bool.true_and, Bool.false_and, Bool.and_true, Bool.and_false, Bool.true_or, Bool.false_or, Bool.or_true, Bool.or_false, true_and, and_true, and_self, Nat.reduceLeDiff, Nat.reduceLT, Nat.reduceAdd, Nat.zero_lt_succ, Nat.lt_add_one, Option.some.injEq, Loc.slot.injEq, Int.reduceAdd, Int.reduceSub, Int.reduceMul, Int.reduceNeg, beq_self_eq_true, List.length_cons, List.length_nil, decide_true, decide_false, Bool.and_self, bne_self_eq_false, ↓reduceIte, Nat.reduceEqDiff, reduceCtorEq, Bool.false_eq_true]
          rfl
        · simp only [sgn, if_true] at *
          simp (disch := first | omega | (simp only [List.length_append, List.length_cons, List.length_nil, List.length_map, List.length_take, List.length_drop] <;> omega) | assumption | decide | (simp only [List.length_append, List.length_cons, List.length_nil, List.length_map] at * <;> omega) | fail) only [go_sem, wrap_i64, wrap_u64, X_deci_Parse, d_a, hc, byteD_eq, w1, hm, ha, Bool.not_true, Bool.not_false, Bool.true_and, Bool.false_and, Bool.and_true, Bool.and_false, Bool.true_or, Bool.false_or, Bool.or_true, Bool.or_false, true_and, and_true, and_self, Nat.reduceLeDiff, Nat.reduceLT, Nat.reduceAdd, Nat.zero_lt_succ, Nat.lt_add_one, Option.some.injEq, Loc.slot.injEq, Int.reduceAdd, Int.reduceSub, Int.reduceMul, Int.reduceNeg, beq_self_eq_true, List.length_cons, List.length_nil, decide_true, decide_false, Bool.and_self, bne_self_eq_false, ↓reduceIte, Nat.reduceEqDiff, reduceCtorEq, Bool.false_eq_true]
          rfl
      · rw [Bool.not_eq_true] at q1
        rw [q1] at hm
        cases neg
        · simp only [sgn, Bool.false_eq_true, if_false] at *
          simp (disch := first | omega | (simp only [List.length_append, List.length_cons, List.length_nil, List.length_map, List.length_take, List.length_drop] <;> omega) | assumption | decide | (simp only [List.length_append, List.length_cons, List.length_nil, List.length_map] at * <;> omega) | fail) only [go_sem, wrap_i64, wrap_u64, X_deci_Parse, d_a, hc, byteD_eq, w1, hm, ha, Bool.not_true, Bool.not_false, Bool.true_and, Bool.false_and, Bool.and_true, Bool.and_false, Bool.true_or, Bool.false_or, Bool.or_true, Bool.or_false, true_and, and_true, and_self, Nat.reduceLeDiff, Nat.reduceLT, Nat.reduceAdd, Nat.zero_lt_succ, Nat.lt_add_one, Option.some.injEq, Loc.slot.injEq, Int.reduceAdd, Int.reduceSub, Int.reduceMul, Int.reduceNeg, beq_self_eq_true, List.length_cons, List.length_nil, decide_true, decide_false, Bool.and_self, bne_self_eq_false, ↓reduceIte, Nat.reduceEqDiff, reduceCtorEq, Bool.false_eq_true]
          rfl
        · simp only [sgn, if_true] at *
          simp (disch := first | omega | (simp only [List.length_append, List.length_cons, List.length_nil, List.length_map, List.length_take, List.length_drop] <;> omega) | assumption | decide | (simp only [List.length_append, List.length_cons, List.length_nil, List.length_map] at * <;> omega) | fail) only [go_sem, wrap_i64, wrap_u64, X_deci_Parse, d_a, hc, byteD_eq, w1, hm, ha, Bool.not_true, Bool.not_false, Bool.true_and, Bool.false_and, Bool.and_true, Bool.and_false, Bool.true_or, Bool.false_or, Bool.or_true, Bool.or_false, true_and, and_true, and_self, Nat.reduceLeDiff, Nat.reduceLT, Nat.reduceAdd, Nat.zero_lt_succ, Nat.lt_add_one, Option.some.injEq, Loc.slot.injEq, Int.reduceAdd, Int.reduceSub, Int.reduceMul, Int.reduceNeg, beq_self_eq_true, List.length_cons, List.length_nil, decide_true, decide_false, Bool.and_self, bne_self_eq_false, ↓reduceIte, Nat.reduceEqDiff, reduceCtorEq, Bool.false_eq_true]
          rfl
end Go.Proofs.YteckebocflnkdaaDoor
