/- What the functions on words compute. -/
import Derived.Test.YtpabdojnfiiaoaaDoorDay
import Derived.Test.YtpabdojnfiiaoaaDoorL9
namespace Go.Proofs.YtpabdojnfiiaoaaDoor
open Go Go.Ev
set_option linter.unusedVariables false
set_option linter.unusedSimpArgs false
set_option maxHeartbeats 2000000

theorem itoa_ans {n : Int} (h0 : -9223372036854775808 ≤ n) (h1 : n ≤ 9223372036854775807) : evL cfg n_strconv_Itoa 0 [.d (.int .i64 n)] [] = some (.d (.str (itoaF n)), []) := by
  rw [evL_ext (g := xItoa) rfl]
  have e : allD [V.d (D.int .i64 n)] = some [.int .i64 n] := rfl
  rw [e]
  simp only [Option.bind_some, xItoa]
  rw [if_pos ⟨h0, h1⟩]
  rfl
theorem repeat_ans {s : List UInt8} {n : Int} (h0 : 0 ≤ n) (h1 : n ≤ 1000) (h2 : s.length ≤ 1000) : evL cfg n_strings_Repeat 0 [.d (.str s), .d (.int .i64 n)] [] = some (.d (.str (Lib.repeatL s n.toNat)), []) := by
  rw [evL_ext (g := xRepeat) rfl]
  have e : allD [V.d (D.str s), V.d (D.int .i64 n)] = some [.str s, .int .i64 n] := rfl
  rw [e]
  simp only [Option.bind_some, xRepeat]
  rw [if_pos ⟨h0, h1, h2⟩]
  rfl
def dec (n : Int) : List UInt8 := decF 20 n.toNat
theorem itoa_dec {n : Int} (h : 0 ≤ n) : itoaF n = dec n := by
  unfold itoaF dec
  rw [if_neg (by omega)]
theorem decF_len : ∀ (k n : Nat), (decF k n).length ≤ k
  | 0, n => Nat.le_refl _
  | k + 1, n => by
    unfold decF
    split
    · simp
    · have := decF_len k (n / 10)
      simp
      omega
def zeros (k : Nat) : List UInt8 := Lib.repeatL [48] k
def padM (v w : Int) : List UInt8 := zeros (w - (dec v).length).toNat ++ dec v
theorem dec_len (n : Int) : (dec n).length ≤ 20 := decF_len 20 _
theorem pad_ans {v w : Int} (h0 : 0 ≤ v) (h1 : v ≤ 1000000000) (h2 : 0 ≤ w) (h3 : w ≤ 20) : evL cfg n_stamp_pad 0 [.d (.int .i64 v), .d (.int .i64 w)] [] = some (.d (.str (padM v w)), []) := by
  rw [o_stamp_pad]
  have hi := itoa_ans (n := v) (by omega) (by omega)
  rw [itoa_dec h0] at hi
  have hl := dec_len v
  have hz : (zeros (w - ((dec v).length : Int)).toNat).length ≤ 20 := by unfold zeros; rw [Lib.repeatL_length]; simp; omega
  have hr := repeat_ans (s := [48]) (n := max (w - ((dec v).length : Int)) 0) (by omega) (by omega) (by decide)
  rw [show (max (w - ((dec v).length : Int)) 0).toNat = (w - ((dec v).length : Int)).toNat by omega] at hr
  unfold padM
  rw [show Lib.repeatL [48] (w - ((dec v).length : Int)).toNat = zeros (w - ((dec v).length : Int)).toNat from rfl] at hr
  simp (disch := first | omega | (simp only [List.length_append, List.length_cons, List.length_nil]; omega)) only [go_sem, wrap_i64, wrap_u64, X_stamp_pad, c_stamp_pad, hi, hr, Bool.not_true, Bool.not_false, Bool.true_and, Bool.false_and, Bool.and_true, Bool.and_false, Bool.true_or, Bool.false_or, Bool.or_true, Bool.or_false, true_and, and_true, and_self, Nat.reduceLeDiff, Nat.reduceLT, Nat.reduceAdd, Nat.zero_lt_succ, Nat.lt_add_one, beq_self_eq_true, bne_self_eq_false, ↓reduceIte, Nat.reduceEqDiff, reduceCtorEq, Bool.false_eq_true]

theorem refPad_loop1 (w : Int) : ∀ (k n : Nat) (s : List UInt8), n < 10 ^ (k + 1) → n < 10000000000 → s.length + k ≤ 100 → ∃ q, ∀ K,
    go X_ingotref12_pad (.c (.loop b_ingotref12_pad_5) :: .b 0 :: K) ⟨[(0, .d (.int .i64 n)), (1, .d (.int .i64 w)), (5, .d (.str (UInt8.ofNat (48 + n % 10) :: s)))], []⟩ =
      go X_ingotref12_pad K ⟨[(0, .d (.int .i64 q)), (1, .d (.int .i64 w)), (5, .d (.str (decF (k + 1) n ++ s))), (13, .d (.bool false))], []⟩
  | 0, n, s, h, h', hs => by
    refine ⟨n, fun K => ?_⟩
    have d_a : decide ((n : Int) ≥ 10) = false := by simp <;> omega
    rw [go_loop]
    simp (disch := first | omega | (simp only [List.length_append, List.length_cons, List.length_nil]; omega)) only [go_sem, wrap_i64, wrap_u64, X_ingotref12_pad, d_a, Bool.not_true, Bool.not_false, Bool.true_and, Bool.false_and, Bool.and_true, Bool.and_false, Bool.true_or, Bool.false_or, Bool.or_true, Bool.or_false, true_and, and_true, and_self, Nat.reduceLeDiff, Nat.reduceLT, Nat.reduceAdd, Nat.zero_lt_succ, Nat.lt_add_one, beq_self_eq_true, bne_self_eq_false, ↓reduceIte, Nat.reduceEqDiff, reduceCtorEq, Bool.false_eq_true]
    rw [decF, if_pos (by omega), Nat.mod_eq_of_lt (by omega)]
    rfl
  | k + 1, n, s, h, h', hs => by
    by_cases c : n < 10
    · refine ⟨n, fun K => ?_⟩
      have d_a : decide ((n : Int) ≥ 10) = false := by simp <;> omega
      rw [go_loop]
      simp (disch := first | omega | (simp only [List.length_append, List.length_cons, List.length_nil]; omega)) only [go_sem, wrap_i64, wrap_u64, X_ingotref12_pad, d_a, Bool.not_true, Bool.not_false, Bool.true_and, Bool.false_and, Bool.and_true, Bool.and_false, Bool.true_or, Bool.false_or, Bool.or_true, Bool.or_false, true_and, and_true, and_self, Nat.reduceLeDiff, Nat.reduceLT, Nat.reduceAdd, Nat.zero_lt_succ, Nat.lt_add_one, beq_self_eq_true, bne_self_eq_false, ↓reduceIte, Nat.reduceEqDiff, reduceCtorEq, Bool.false_eq_true]
      rw [decF, if_pos (by omega), Nat.mod_eq_of_lt (by omega)]
      rfl
    · obtain ⟨q, hq⟩ := refPad_loop1 w k (n / 10) (UInt8.ofNat (48 + n % 10) :: s) (by rw [Nat.pow_succ] at h; omega) (by omega) (by simp only [List.length_cons]; omega)
      refine ⟨q, fun K => ?_⟩
      have d_a : decide ((n : Int) ≥ 10) = true := by simp <;> omega
      have e1 : ((n : Int)).tdiv 10 = ((n / 10 : Nat) : Int) := by rw [tdp (by omega)]; omega
      rw [go_loop]
      have e2 : (48 + ((n / 10 : Nat) : Int) % 10).toNat = 48 + n / 10 % 10 := by omega
      simp (disch := first | omega | (simp only [List.length_append, List.length_cons, List.length_nil]; omega)) only [go_sem, wrap_i64, wrap_u64, X_ingotref12_pad, d_a, ib_quo, ib_rem, e1, e2, tmp, wrap_u8, List.cons_append, List.nil_append, Bool.not_true, Bool.not_false, Bool.true_and, Bool.false_and, Bool.and_true, Bool.and_false, Bool.true_or, Bool.false_or, Bool.or_true, Bool.or_false, true_and, and_true, and_self, Nat.reduceLeDiff, Nat.reduceLT, Nat.reduceAdd, Nat.zero_lt_succ, Nat.lt_add_one, beq_self_eq_true, bne_self_eq_false, ↓reduceIte, Nat.reduceEqDiff, reduceCtorEq, Bool.false_eq_true]
      have e3 : decF (k + 1 + 1) n = decF (k + 1) (n / 10) ++ [UInt8.ofNat (48 + n % 10)] := by rw [decF, if_neg c]
      rw [hq, e3, List.append_assoc]
      rfl
theorem refPad_loop2 (K : List Kf) (w : Int) : ∀ (k : Nat) (s : List UInt8), (k : Int) = (w - s.length).toNat → w ≤ 20 → s.length ≤ 100 →
    go X_ingotref12_pad (.c (.loop b_ingotref12_pad_8) :: .b 2 :: K) ⟨[(1, .d (.int .i64 w)), (5, .d (.str s))], []⟩ =
      go X_ingotref12_pad K ⟨[(1, .d (.int .i64 w)), (5, .d (.str (zeros k ++ s))), (27, .d (.bool false))], []⟩
  | 0, s, h, h', hs => by
    have d_a : decide ((s.length : Int) < w) = false := by simp <;> omega
    rw [go_loop]
    simp (disch := first | omega | (simp only [List.length_append, List.length_cons, List.length_nil]; omega)) only [go_sem, wrap_i64, wrap_u64, X_ingotref12_pad, d_a, Bool.not_true, Bool.not_false, Bool.true_and, Bool.false_and, Bool.and_true, Bool.and_false, Bool.true_or, Bool.false_or, Bool.or_true, Bool.or_false, true_and, and_true, and_self, Nat.reduceLeDiff, Nat.reduceLT, Nat.reduceAdd, Nat.zero_lt_succ, Nat.lt_add_one, beq_self_eq_true, bne_self_eq_false, ↓reduceIte, Nat.reduceEqDiff, reduceCtorEq, Bool.false_eq_true]
    rfl
  | k + 1, s, h, h', hs => by
    have d_a : decide ((s.length : Int) < w) = true := by simp <;> omega
    have ih := refPad_loop2 K w k (48 :: s) (by simp only [List.length_cons]; omega) h' (by simp only [List.length_cons]; omega)
    rw [go_loop]
    simp (disch := first | omega | (simp only [List.length_append, List.length_cons, List.length_nil]; omega)) only [go_sem, wrap_i64, wrap_u64, X_ingotref12_pad, d_a, List.cons_append, List.nil_append, Bool.not_true, Bool.not_false, Bool.true_and, Bool.false_and, Bool.and_true, Bool.and_false, Bool.true_or, Bool.false_or, Bool.or_true, Bool.or_false, true_and, and_true, and_self, Nat.reduceLeDiff, Nat.reduceLT, Nat.reduceAdd, Nat.zero_lt_succ, Nat.lt_add_one, beq_self_eq_true, bne_self_eq_false, ↓reduceIte, Nat.reduceEqDiff, reduceCtorEq, Bool.false_eq_true]
    rw [ih]
    have e : zeros (k + 1) ++ s = zeros k ++ 48 :: s := by
      have : ∀ k, zeros (k + 1) ++ s = zeros k ++ 48 :: s := by
        intro k
        induction k with
        | zero => rfl
        | succ k ih =>
          show 48 :: (zeros (k + 1) ++ s) = 48 :: (zeros k ++ 48 :: s)
          rw [ih]
      exact this k
    rw [e]
theorem refPad_ans {v w : Int} (h0 : 0 ≤ v) (h1 : v ≤ 1000000000) (h2 : 0 ≤ w) (h3 : w ≤ 20) : evL cfg n_ingotref12_pad 0 [.d (.int .i64 v), .d (.int .i64 w)] [] = some (.d (.str (padM v w)), []) := by
  rw [o_ingotref12_pad]
  obtain ⟨n, rfl⟩ := Int.eq_ofNat_of_zero_le h0
  obtain ⟨q, hq⟩ := refPad_loop1 w 19 n [] (by omega) (by omega) (by decide)
  have e2 : (48 + (n : Int) % 10).toNat = 48 + n % 10 := by omega
  have hd : decF (19 + 1) n ++ [] = dec n := by simp [dec]
  rw [hd] at hq
  have hl := dec_len n
  simp (disch := first | omega | (simp only [List.length_append, List.length_cons, List.length_nil]; omega)) only [go_sem, wrap_i64, wrap_u64, X_ingotref12_pad, c_ingotref12_pad, ib_rem, tmp, e2, wrap_u8, hq, Bool.not_true, Bool.not_false, Bool.true_and, Bool.false_and, Bool.and_true, Bool.and_false, Bool.true_or, Bool.false_or, Bool.or_true, Bool.or_false, true_and, and_true, and_self, Nat.reduceLeDiff, Nat.reduceLT, Nat.reduceAdd, Nat.zero_lt_succ, Nat.lt_add_one, beq_self_eq_true, bne_self_eq_false, ↓reduceIte, Nat.reduceEqDiff, reduceCtorEq, Bool.false_eq_true]
  rw [go_loop]
  by_cases c : ((dec n).length : Int) < w
  · have d_a : decide (((dec n).length : Int) < w) = true := by simp <;> omega
    obtain ⟨k, hk⟩ : ∃ k : Nat, (w - ((dec n).length : Int)).toNat = k + 1 := ⟨(w - ((dec n).length : Int)).toNat - 1, by omega⟩
    have h5 := fun K => refPad_loop2 K w k (48 :: dec n) (by simp only [List.length_cons]; omega) h3 (by simp only [List.length_cons]; omega)
    simp (disch := first | omega | (simp only [List.length_append, List.length_cons, List.length_nil]; omega)) only [go_sem, wrap_i64, wrap_u64, X_ingotref12_pad, d_a, h5, List.cons_append, List.nil_append, Bool.not_true, Bool.not_false, Bool.true_and, Bool.false_and, Bool.and_true, Bool.and_false, Bool.true_or, Bool.false_or, Bool.or_true, Bool.or_false, true_and, and_true, and_self, Nat.reduceLeDiff, Nat.reduceLT, Nat.reduceAdd, Nat.zero_lt_succ, Nat.lt_add_one, beq_self_eq_true, bne_self_eq_false, ↓reduceIte, Nat.reduceEqDiff, reduceCtorEq, Bool.false_eq_true]
    unfold padM
    rw [hk]
    have e : ∀ (s : List UInt8) (k : Nat), zeros k ++ 48 :: s = zeros (k + 1) ++ s := by
      intro s k
      induction k with
      | zero => rfl
      | succ k ih =>
        show 48 :: (zeros k ++ 48 :: s) = 48 :: (zeros (k + 1) ++ s)
        rw [ih]
    rw [e]
  · have d_a : decide (((dec n).length : Int) < w) = false := by simp <;> omega
    simp (disch := first | omega | (simp only [List.length_append, List.length_cons, List.length_nil]; omega)) only [go_sem, wrap_i64, wrap_u64, X_ingotref12_pad, d_a, Bool.not_true, Bool.not_false, Bool.true_and, Bool.false_and, Bool.and_true, Bool.and_false, Bool.true_or, Bool.false_or, Bool.or_true, Bool.or_false, true_and, and_true, and_self, Nat.reduceLeDiff, Nat.reduceLT, Nat.reduceAdd, Nat.zero_lt_succ, Nat.lt_add_one, beq_self_eq_true, bne_self_eq_false, ↓reduceIte, Nat.reduceEqDiff, reduceCtorEq, Bool.false_eq_true]
    unfold padM
    rw [show (w - ((dec n).length : Int)).toNat = 0 by omega]
    rfl

/-- without the noughts at the end -/
def trimM (f : List UInt8) : List UInt8 := (f.reverse.dropWhile (· == 48)).reverse
theorem trimM_nil : trimM [] = [] := rfl
theorem trimM_0 (g : List UInt8) : trimM (g ++ [48]) = trimM g := by simp [trimM]
theorem trimM_c (g : List UInt8) {c : UInt8} (h : c ≠ 48) : trimM (g ++ [c]) = g ++ [c] := by simp [trimM, h]
theorem trimM_len (f : List UInt8) : (trimM f).length ≤ f.length := by
  unfold trimM
  rw [List.length_reverse]
  exact Nat.le_trans (List.dropWhile_sublist _).length_le (by simp)
theorem last_get (g : List UInt8) (c : UInt8) : (g ++ [c])[(((g ++ [c]).length : Int) - 1).toNat]? = some c := by
  have e : (((g ++ [c]).length : Int) - 1).toNat = g.length := by simp
  rw [e]
  simp
theorem last_cut (g : List UInt8) (c : UInt8) : List.drop 0 (List.take (((g ++ [c]).length : Int) - 1).toNat (g ++ [c])) = g := by
  have e : (((g ++ [c]).length : Int) - 1).toNat = g.length := by simp
  rw [e]
  simp
theorem len_snoc (g : List UInt8) (c : UInt8) : (g ++ [c]).length = g.length + 1 := by simp
theorem byte_48 {c : UInt8} (h : c ≠ 48) : ((c.toNat : Int) == 48) = false := by
  have : c.toNat ≠ 48 := fun e => h (UInt8.toNat_inj.1 e)
  simp
  omega
theorem h48 : ((((48 : UInt8).toNat : Nat) : Int) == 48) = true := rfl
theorem tb_loop (K : List Kf) : ∀ (k : Nat) (f : List UInt8), f.length = k → k ≤ 1000 →
    go X_strings_trimRightByte (.c (.loop b_strings_trimRightByte_3) :: .b 0 :: K) ⟨[(0, .d (.str f)), (1, .d (.int .u8 48))], []⟩ =
      go X_strings_trimRightByte K ⟨[(0, .d (.str (trimM f))), (1, .d (.int .u8 48)), (16, .d (.bool false))], []⟩ := by
  intro k
  induction k with
  | zero =>
    intro f h h'
    obtain rfl := List.eq_nil_of_length_eq_zero h
    have d_a : decide ((([] : List UInt8).length : Int) > 0) = false := rfl
    have d_b : decide (((0 : Nat) : Int) > 0) = false := rfl
    rw [go_loop]
    simp (disch := first | omega | (simp only [List.length_append, List.length_cons, List.length_nil]; omega)) only [go_sem, wrap_i64, wrap_u64, X_strings_trimRightByte, d_a, d_b, trimM_nil, Bool.not_true, Bool.not_false, Bool.true_and, Bool.false_and, Bool.and_true, Bool.and_false, Bool.true_or, Bool.false_or, Bool.or_true, Bool.or_false, true_and, and_true, and_self, Nat.reduceLeDiff, Nat.reduceLT, Nat.reduceAdd, Nat.zero_lt_succ, Nat.lt_add_one, beq_self_eq_true, bne_self_eq_false, ↓reduceIte, Nat.reduceEqDiff, reduceCtorEq, Bool.false_eq_true]
  | succ k ih =>
    intro f h h'
    rcases List.eq_nil_or_concat f with rfl | ⟨g, c, rfl⟩
    · cases h
    · rw [List.concat_eq_append] at *
      have hl := len_snoc g c
      have ih' := ih g (by omega) (by omega)
      have d_a : decide (((g ++ [c]).length : Int) > 0) = true := by simp
      have hn : ¬ (((g ++ [c]).length : Int) - 1 < 0) := by omega
      rw [go_loop]
      by_cases hc : c = 48
      · subst hc
        rw [trimM_0, ← ih']
        simp (disch := first | omega | (simp only [List.length_append, List.length_cons, List.length_nil]; omega)) only [go_sem, wrap_i64, wrap_u64, X_strings_trimRightByte, d_a, hn, last_get, last_cut, byteD, h48, Bool.not_true, Bool.not_false, Bool.true_and, Bool.false_and, Bool.and_true, Bool.and_false, Bool.true_or, Bool.false_or, Bool.or_true, Bool.or_false, true_and, and_true, and_self, Nat.reduceLeDiff, Nat.reduceLT, Nat.reduceAdd, Nat.zero_lt_succ, Nat.lt_add_one, beq_self_eq_true, bne_self_eq_false, ↓reduceIte, Nat.reduceEqDiff, reduceCtorEq, Bool.false_eq_true]
      · have hb := byte_48 hc
        rw [trimM_c g hc]
        simp (disch := first | omega | (simp only [List.length_append, List.length_cons, List.length_nil]; omega)) only [go_sem, wrap_i64, wrap_u64, X_strings_trimRightByte, d_a, hn, last_get, byteD, hb, Bool.not_true, Bool.not_false, Bool.true_and, Bool.false_and, Bool.and_true, Bool.and_false, Bool.true_or, Bool.false_or, Bool.or_true, Bool.or_false, true_and, and_true, and_self, Nat.reduceLeDiff, Nat.reduceLT, Nat.reduceAdd, Nat.zero_lt_succ, Nat.lt_add_one, beq_self_eq_true, bne_self_eq_false, ↓reduceIte, Nat.reduceEqDiff, reduceCtorEq, Bool.false_eq_true]
theorem trimByte_ans {f : List UInt8} (h : f.length ≤ 1000) : evL cfg n_strings_trimRightByte 0 [.d (.str f), .d (.int .u8 48)] [] = some (.d (.str (trimM f)), []) := by
  rw [o_strings_trimRightByte]
  have hl := fun K => tb_loop K f.length f rfl h
  simp (disch := first | omega | (simp only [List.length_append, List.length_cons, List.length_nil]; omega)) only [go_sem, wrap_i64, wrap_u64, X_strings_trimRightByte, c_strings_trimRightByte, hl, Bool.not_true, Bool.not_false, Bool.true_and, Bool.false_and, Bool.and_true, Bool.and_false, Bool.true_or, Bool.false_or, Bool.or_true, Bool.or_false, true_and, and_true, and_self, Nat.reduceLeDiff, Nat.reduceLT, Nat.reduceAdd, Nat.zero_lt_succ, Nat.lt_add_one, beq_self_eq_true, bne_self_eq_false, ↓reduceIte, Nat.reduceEqDiff, reduceCtorEq, Bool.false_eq_true]
set_option maxRecDepth 100000 in
theorem trimRight_ans {f : List UInt8} (h : f.length ≤ 1000) (h0 : f ≠ []) : evL cfg n_strings_TrimRight 0 [.d (.str f), .d (.str [48])] [] = some (.d (.str (trimM f)), []) := by
  rw [o_strings_TrimRight]
  have ht := trimByte_ans h
  have a : (f == []) = false := by simpa using h0
  have b : (([48] : List UInt8) == []) = false := rfl
  have c : ((((0 + 1 : Nat)) : Int) == 1) = true := rfl
  have d : ((0 : Int).toNat) = 0 := rfl
  have e : decide ((((48 : UInt8).toNat : Nat) : Int) < 128) = true := rfl
  have g : ((48 : UInt8).toNat : Int) = 48 := rfl
  have k : decide ((48 : Int) < 128) = true := rfl
  have n0 : ¬ ((0 : Int) < 0) := by decide
  simp (disch := first | omega | (simp only [List.length_append, List.length_cons, List.length_nil]; omega)) only [go_sem, wrap_i64, wrap_u64, X_strings_TrimRight, c_strings_TrimRight, ht, a, b, c, d, e, g, k, n0, byteD, List.getElem?_cons_zero, Bool.not_true, Bool.not_false, Bool.true_and, Bool.false_and, Bool.and_true, Bool.and_false, Bool.true_or, Bool.false_or, Bool.or_true, Bool.or_false, true_and, and_true, and_self, Nat.reduceLeDiff, Nat.reduceLT, Nat.reduceAdd, Nat.zero_lt_succ, Nat.lt_add_one, beq_self_eq_true, bne_self_eq_false, ↓reduceIte, Nat.reduceEqDiff, reduceCtorEq, Bool.false_eq_true]
theorem refTrim_loop (K : List Kf) (s7 : List UInt8) : ∀ (k : Nat) (f : List UInt8), f.length = k → k ≤ 1000 → trimM f ≠ [] →
    go X_ingotref12_Text (.c (.loop b_ingotref12_Text_8) :: .b 0 :: K) ⟨[(7, .d (.str s7)), (8, .d (.str f))], []⟩ =
      go X_ingotref12_Text K ⟨[(7, .d (.str s7)), (8, .d (.str (trimM f))), (42, .d (.bool false))], []⟩ := by
  intro k
  induction k with
  | zero =>
    intro f h h' hne
    obtain rfl := List.eq_nil_of_length_eq_zero h
    exact absurd rfl hne
  | succ k ih =>
    intro f h h' hne
    rcases List.eq_nil_or_concat f with rfl | ⟨g, c, rfl⟩
    · cases h
    · rw [List.concat_eq_append] at *
      have hl := len_snoc g c
      have hn : ¬ (((g ++ [c]).length : Int) - 1 < 0) := by omega
      rw [go_loop]
      by_cases hc : c = 48
      · subst hc
        have ih' := ih g (by omega) (by omega) (by rwa [trimM_0] at hne)
        rw [trimM_0, ← ih']
        simp (disch := first | omega | (simp only [List.length_append, List.length_cons, List.length_nil]; omega)) only [go_sem, wrap_i64, wrap_u64, X_ingotref12_Text, hn, last_get, last_cut, byteD, h48, Bool.not_true, Bool.not_false, Bool.true_and, Bool.false_and, Bool.and_true, Bool.and_false, Bool.true_or, Bool.false_or, Bool.or_true, Bool.or_false, true_and, and_true, and_self, Nat.reduceLeDiff, Nat.reduceLT, Nat.reduceAdd, Nat.zero_lt_succ, Nat.lt_add_one, beq_self_eq_true, bne_self_eq_false, ↓reduceIte, Nat.reduceEqDiff, reduceCtorEq, Bool.false_eq_true]
      · have hb := byte_48 hc
        rw [trimM_c g hc]
        simp (disch := first | omega | (simp only [List.length_append, List.length_cons, List.length_nil]; omega)) only [go_sem, wrap_i64, wrap_u64, X_ingotref12_Text, hn, last_get, byteD, hb, Bool.not_true, Bool.not_false, Bool.true_and, Bool.false_and, Bool.and_true, Bool.and_false, Bool.true_or, Bool.false_or, Bool.or_true, Bool.or_false, true_and, and_true, and_self, Nat.reduceLeDiff, Nat.reduceLT, Nat.reduceAdd, Nat.zero_lt_succ, Nat.lt_add_one, beq_self_eq_true, bne_self_eq_false, ↓reduceIte, Nat.reduceEqDiff, reduceCtorEq, Bool.false_eq_true]
theorem split_ans {n : Int} (h0 : -1152921504606846976 ≤ n) (h1 : n ≤ 1152921504606846976) : evL cfg n_ingotref12_Split 0 [.d (.int .i64 n)] [] = some (.d (.tup [.int .i64 (n / 86400), .int .i64 (n % 86400)]), []) := by
  rw [o_ingotref12_Split]
  have hf := floor_ans (a := n) (b := 86400) (by decide) (by omega) (by omega) (by omega) (by omega)
  have e : n - n / 86400 * 86400 = n % 86400 := by omega
  simp (disch := first | omega | (simp only [List.length_append, List.length_cons, List.length_nil]; omega)) only [go_sem, wrap_i64, wrap_u64, X_ingotref12_Split, c_ingotref12_Split, hf, e, Bool.not_true, Bool.not_false, Bool.true_and, Bool.false_and, Bool.and_true, Bool.and_false, Bool.true_or, Bool.false_or, Bool.or_true, Bool.or_false, true_and, and_true, and_self, Nat.reduceLeDiff, Nat.reduceLT, Nat.reduceAdd, Nat.zero_lt_succ, Nat.lt_add_one, beq_self_eq_true, bne_self_eq_false, ↓reduceIte, Nat.reduceEqDiff, reduceCtorEq, Bool.false_eq_true]
theorem padM_len {v w : Int} (h : w ≤ 20) : (padM v w).length ≤ 40 := by
  have := dec_len v
  unfold padM zeros
  rw [List.length_append, Lib.repeatL_length]
  simp
  omega
def absM (y : Int) : Int := if y < 0 then 0 - y else y
def sgnM (y : Int) : List UInt8 := if y < 0 then [45] else []
def dayM (n : Int) : List UInt8 := sgnM (dateY n) ++ (padM (absM (dateY n)) 4 ++ ([45] ++ (padM (dateM n) 2 ++ ([45] ++ padM (dateD n) 2))))
def clockM (r : Int) : List UInt8 := padM (r / 3600) 2 ++ ([58] ++ (padM (r / 60 % 60) 2 ++ ([58] ++ padM (r % 60) 2)))
def nanoT (nano : Int) : List UInt8 := if nano = 0 then [] else [46] ++ trimM (padM nano 9)
def textM (sec nano : Int) : List UInt8 := dayM (sec / 86400) ++ ([32] ++ (clockM (sec % 86400) ++ nanoT nano))
theorem known_room {n : Int} (k : knownB n = true) : -4371587 ≤ n ∧ n ≤ 2932896 := by
  unfold knownB at k
  simp at k
  exact k
theorem day_ans {n : Int} (k : knownB n = true) : evL cfg n_ingotref12_Day 0 [.d (.int .i64 n)] [] = some (.d (.str (dayM n)), []) := by
  rw [o_ingotref12_Day]
  have hr := known_room k
  have hd := refDate_ans (date_is n) (known_year (date_is n) k).1 (known_year (date_is n) k).2
  have hy := known_year (date_is n) k
  obtain ⟨b1, b2, b3, b4, b5⟩ := date_is n
  have hm := mlen_room (dateY n) (dateM n)
  unfold dayM
  generalize dateY n = y at *
  generalize dateM n = m at *
  generalize dateD n = d at *
  have l2 := padM_len (v := m) (w := 2) (by decide)
  have l3 := padM_len (v := d) (w := 2) (by decide)
  by_cases c : y < 0
  · have l1 := padM_len (v := 0 - y) (w := 4) (by decide)
    have d_a : decide (y < 0) = true := by simp <;> omega
    simp (disch := first | omega | (simp only [List.length_append, List.length_cons, List.length_nil]; omega)) only [go_sem, wrap_i64, wrap_u64, X_ingotref12_Day, c_ingotref12_Day, hd, d_a, refPad_ans, Bool.not_true, Bool.not_false, Bool.true_and, Bool.false_and, Bool.and_true, Bool.and_false, Bool.true_or, Bool.false_or, Bool.or_true, Bool.or_false, true_and, and_true, and_self, Nat.reduceLeDiff, Nat.reduceLT, Nat.reduceAdd, Nat.zero_lt_succ, Nat.lt_add_one, beq_self_eq_true, bne_self_eq_false, ↓reduceIte, Nat.reduceEqDiff, reduceCtorEq, Bool.false_eq_true]
    simp only [sgnM, absM, if_pos c, List.append_assoc]
  · have l1 := padM_len (v := y) (w := 4) (by decide)
    have d_a : decide (y < 0) = false := by simp <;> omega
    simp (disch := first | omega | (simp only [List.length_append, List.length_cons, List.length_nil]; omega)) only [go_sem, wrap_i64, wrap_u64, X_ingotref12_Day, c_ingotref12_Day, hd, d_a, refPad_ans, Bool.not_true, Bool.not_false, Bool.true_and, Bool.false_and, Bool.and_true, Bool.and_false, Bool.true_or, Bool.false_or, Bool.or_true, Bool.or_false, true_and, and_true, and_self, Nat.reduceLeDiff, Nat.reduceLT, Nat.reduceAdd, Nat.zero_lt_succ, Nat.lt_add_one, beq_self_eq_true, bne_self_eq_false, ↓reduceIte, Nat.reduceEqDiff, reduceCtorEq, Bool.false_eq_true]
    simp only [sgnM, absM, if_neg c, List.append_assoc]
theorem dw_nil {p : UInt8 → Bool} : ∀ l : List UInt8, l.dropWhile p = [] → ∀ x ∈ l, p x = true
  | [], _, x, hx => by cases hx
  | a :: l, h, x, hx => by
    rw [List.dropWhile_cons] at h
    split at h
    · rename_i ha
      rcases List.mem_cons.1 hx with rfl | hx
      · exact ha
      · exact dw_nil l h x hx
    · cases h
theorem trimM_ne {f : List UInt8} {c : UInt8} (h : c ∈ f) (hc : c ≠ 48) : trimM f ≠ [] := by
  unfold trimM
  intro e
  rw [List.reverse_eq_nil_iff] at e
  have := dw_nil _ e c (by simpa using h)
  simp at this
  exact hc this
theorem decF_nz : ∀ (k n : Nat), 0 < n → n < 10 ^ (k + 1) → ∃ c ∈ decF (k + 1) n, c ≠ 48
  | 0, n, h, h' => by
    refine ⟨UInt8.ofNat (48 + n), by rw [decF, if_pos (by omega)]; simp, fun e => ?_⟩
    have := congrArg UInt8.toNat e
    simp at this
    omega
  | k + 1, n, h, h' => by
    by_cases c : n < 10
    · refine ⟨UInt8.ofNat (48 + n), by rw [decF, if_pos c]; simp, fun e => ?_⟩
      have := congrArg UInt8.toNat e
      simp at this
      omega
    · obtain ⟨x, hx, hn⟩ := decF_nz k (n / 10) (by omega) (by rw [Nat.pow_succ] at h'; omega)
      exact ⟨x, by rw [decF, if_neg c]; exact List.mem_append_left _ hx, hn⟩
theorem nano_trim {n : Int} (h0 : 0 < n) (h1 : n ≤ 1000000000) : trimM (padM n 9) ≠ [] := by
  obtain ⟨c, hc, hn⟩ := decF_nz 19 n.toNat (by omega) (by omega)
  exact trimM_ne (c := c) (by unfold padM dec; exact List.mem_append_right _ hc) hn
theorem pad_ne (v w : Int) (h0 : 0 < v) (h1 : v ≤ 1000000000) : padM v w ≠ [] := by
  obtain ⟨c, hc, hn⟩ := decF_nz 19 v.toNat (by omega) (by omega)
  intro e
  have : c ∈ padM v w := by unfold padM dec; exact List.mem_append_right _ hc
  rw [e] at this
  cases this
theorem dayM_len {n : Int} : (dayM n).length ≤ 200 := by
  have l1 := padM_len (v := absM (dateY n)) (w := 4) (by decide)
  have l2 := padM_len (v := dateM n) (w := 2) (by decide)
  have l3 := padM_len (v := dateD n) (w := 2) (by decide)
  have l4 : (sgnM (dateY n)).length ≤ 1 := by unfold sgnM; split <;> simp
  unfold dayM
  simp only [List.length_append, List.length_cons, List.length_nil]
  omega
theorem refText_ans {s n : Int} (k : knownB (s / 86400) = true) (h0 : 0 ≤ n) (h1 : n ≤ 999999999) : evL cfg n_ingotref12_Text 0 [.d (.int .i64 s), .d (.int .i64 n)] [] = some (.d (.str (textM s n)), []) := by
  rw [o_ingotref12_Text]
  have hr := known_room k
  have hs := split_ans (n := s) (by omega) (by omega)
  have hd := day_ans k
  have q0 : 0 ≤ s % 86400 := by omega
  have q1 : s % 86400 < 86400 := by omega
  have hl := dayM_len (n := s / 86400)
  unfold textM
  generalize dayM (s / 86400) = D at *
  generalize s % 86400 = r at *
  have l1 := padM_len (v := r / 3600) (w := 2) (by decide)
  have l2 := padM_len (v := r / 60 % 60) (w := 2) (by decide)
  have l3 := padM_len (v := r % 60) (w := 2) (by decide)
  by_cases c : n = 0
  · subst c
    have e : ((0 : Int) == 0) = true := rfl
    simp (disch := first | omega | (simp only [List.length_append, List.length_cons, List.length_nil]; omega)) only [go_sem, wrap_i64, wrap_u64, X_ingotref12_Text, c_ingotref12_Text, hs, hd, refPad_ans, ib_quo, ib_rem, tdp, tmp, e, Bool.not_true, Bool.not_false, Bool.true_and, Bool.false_and, Bool.and_true, Bool.and_false, Bool.true_or, Bool.false_or, Bool.or_true, Bool.or_false, true_and, and_true, and_self, Nat.reduceLeDiff, Nat.reduceLT, Nat.reduceAdd, Nat.zero_lt_succ, Nat.lt_add_one, beq_self_eq_true, bne_self_eq_false, ↓reduceIte, Nat.reduceEqDiff, reduceCtorEq, Bool.false_eq_true]
    simp only [clockM, nanoT, if_true, List.append_assoc, List.append_nil]
  · have d_a : (n == 0) = false := by simp <;> omega
    have l4 := padM_len (v := n) (w := 9) (by decide)
    have hne := nano_trim (n := n) (by omega) (by omega)
    have ht := fun K s7 => refTrim_loop K s7 (padM n 9).length (padM n 9) rfl (by omega) hne
    have l5 := trimM_len (padM n 9)
    simp (disch := first | omega | (simp only [List.length_append, List.length_cons, List.length_nil]; omega)) only [go_sem, wrap_i64, wrap_u64, X_ingotref12_Text, c_ingotref12_Text, hs, hd, refPad_ans, ib_quo, ib_rem, tdp, tmp, d_a, ht, Bool.not_true, Bool.not_false, Bool.true_and, Bool.false_and, Bool.and_true, Bool.and_false, Bool.true_or, Bool.false_or, Bool.or_true, Bool.or_false, true_and, and_true, and_self, Nat.reduceLeDiff, Nat.reduceLT, Nat.reduceAdd, Nat.zero_lt_succ, Nat.lt_add_one, beq_self_eq_true, bne_self_eq_false, ↓reduceIte, Nat.reduceEqDiff, reduceCtorEq, Bool.false_eq_true]
    simp only [clockM, nanoT, if_neg c, List.append_assoc]
theorem text_ans {s n : Int} (k : knownB (s / 86400) = true) (h0 : 0 ≤ n) (h1 : n ≤ 999999999) : evL cfg n_stamp_Text 0 [.d (.int .i64 s), .d (.int .i64 n)] [] = some (.d (.str (textM s n)), []) := by
  rw [o_stamp_Text]
  have hr := known_room k
  have hd := date_ans (n := s / 86400) (by omega) (by omega)
  have hy := known_year (date_is (s / 86400)) k
  obtain ⟨b1, b2, b3, b4, b5⟩ := date_is (s / 86400)
  have hm := mlen_room (dateY (s / 86400)) (dateM (s / 86400))
  have q0 : 0 ≤ s % 86400 := by omega
  have q1 : s % 86400 < 86400 := by omega
  have hfl : (s.tdiv 86400 = s / 86400 ∧ s.tmod 86400 = s % 86400) ∨ (s.tdiv 86400 = s / 86400 + 1 ∧ s.tmod 86400 = s % 86400 - 86400) := by
    by_cases c : 0 ≤ s ∨ (86400 : Int) ∣ s
    · exact Or.inl ⟨by rw [Int.tdiv_eq_ediv, if_pos c]; omega, by rw [Int.tmod_eq_emod, if_pos c]; omega⟩
    · exact Or.inr ⟨by rw [Int.tdiv_eq_ediv, if_neg c]; rfl, by rw [Int.tmod_eq_emod, if_neg c]; rfl⟩
  unfold textM dayM
  generalize hq : s / 86400 = q at *
  generalize s % 86400 = r at *
  generalize dateY q = y at *
  generalize dateM q = m at *
  generalize dateD q = d at *
  have l1 := padM_len (v := r / 3600) (w := 2) (by decide)
  have l2 := padM_len (v := r / 60 % 60) (w := 2) (by decide)
  have l3 := padM_len (v := r % 60) (w := 2) (by decide)
  have l6 := padM_len (v := m) (w := 2) (by decide)
  have l7 := padM_len (v := d) (w := 2) (by decide)
  have l4 := padM_len (v := n) (w := 9) (by decide)
  have l8 := padM_len (v := y) (w := 4) (by decide)
  have l9 := padM_len (v := 0 - y) (w := 4) (by decide)
  have l5 := trimM_len (padM n 9)
  have d_a1 : decide (r < 0) = false := by simp <;> omega
  have d_a2 : decide (r - 86400 < 0) = true := by simp <;> omega
  have e1 : q + 1 - 1 = q := by omega
  have e2 : r - 86400 + 86400 = r := by omega
  rcases hfl with ⟨f1, f2⟩ | ⟨f1, f2⟩
  · by_cases c : y < 0
    · have d_c1 : decide (y < 0) = true := by simp <;> omega
      by_cases z : n = 0
      · subst z
        have z1 : decide ((0 : Int) > 0) = false := rfl
        simp (disch := first | omega | (simp only [List.length_append, List.length_cons, List.length_nil]; omega)) only [go_sem, wrap_i64, wrap_u64, X_stamp_Text, c_stamp_Text, hd, pad_ans, ib_quo, ib_rem, tdp, tmp, f1, f2, d_a1, d_c1, z1, Bool.not_true, Bool.not_false, Bool.true_and, Bool.false_and, Bool.and_true, Bool.and_false, Bool.true_or, Bool.false_or, Bool.or_true, Bool.or_false, true_and, and_true, and_self, Nat.reduceLeDiff, Nat.reduceLT, Nat.reduceAdd, Nat.zero_lt_succ, Nat.lt_add_one, beq_self_eq_true, bne_self_eq_false, ↓reduceIte, Nat.reduceEqDiff, reduceCtorEq, Bool.false_eq_true]
        simp only [clockM, nanoT, if_true, List.append_assoc, List.append_nil, List.nil_append, sgnM, absM, if_pos c]
      · have d_z1 : decide (n > 0) = true := by simp <;> omega
        have ht := trimRight_ans (f := padM n 9) (by omega) (pad_ne _ _ (by omega) (by omega))
        simp (disch := first | omega | (simp only [List.length_append, List.length_cons, List.length_nil]; omega)) only [go_sem, wrap_i64, wrap_u64, X_stamp_Text, c_stamp_Text, hd, pad_ans, ib_quo, ib_rem, tdp, tmp, f1, f2, d_a1, d_c1, d_z1, ht, Bool.not_true, Bool.not_false, Bool.true_and, Bool.false_and, Bool.and_true, Bool.and_false, Bool.true_or, Bool.false_or, Bool.or_true, Bool.or_false, true_and, and_true, and_self, Nat.reduceLeDiff, Nat.reduceLT, Nat.reduceAdd, Nat.zero_lt_succ, Nat.lt_add_one, beq_self_eq_true, bne_self_eq_false, ↓reduceIte, Nat.reduceEqDiff, reduceCtorEq, Bool.false_eq_true]
        simp only [clockM, nanoT, if_neg z, List.append_assoc, List.append_nil, List.nil_append, sgnM, absM, if_pos c]
    · have d_c1 : decide (y < 0) = false := by simp <;> omega
      by_cases z : n = 0
      · subst z
        have z1 : decide ((0 : Int) > 0) = false := rfl
        simp (disch := first | omega | (simp only [List.length_append, List.length_cons, List.length_nil]; omega)) only [go_sem, wrap_i64, wrap_u64, X_stamp_Text, c_stamp_Text, hd, pad_ans, ib_quo, ib_rem, tdp, tmp, f1, f2, d_a1, d_c1, z1, Bool.not_true, Bool.not_false, Bool.true_and, Bool.false_and, Bool.and_true, Bool.and_false, Bool.true_or, Bool.false_or, Bool.or_true, Bool.or_false, true_and, and_true, and_self, Nat.reduceLeDiff, Nat.reduceLT, Nat.reduceAdd, Nat.zero_lt_succ, Nat.lt_add_one, beq_self_eq_true, bne_self_eq_false, ↓reduceIte, Nat.reduceEqDiff, reduceCtorEq, Bool.false_eq_true]
        simp only [clockM, nanoT, if_true, List.append_assoc, List.append_nil, List.nil_append, sgnM, absM, if_neg c]
      · have d_z1 : decide (n > 0) = true := by simp <;> omega
        have ht := trimRight_ans (f := padM n 9) (by omega) (pad_ne _ _ (by omega) (by omega))
        simp (disch := first | omega | (simp only [List.length_append, List.length_cons, List.length_nil]; omega)) only [go_sem, wrap_i64, wrap_u64, X_stamp_Text, c_stamp_Text, hd, pad_ans, ib_quo, ib_rem, tdp, tmp, f1, f2, d_a1, d_c1, d_z1, ht, Bool.not_true, Bool.not_false, Bool.true_and, Bool.false_and, Bool.and_true, Bool.and_false, Bool.true_or, Bool.false_or, Bool.or_true, Bool.or_false, true_and, and_true, and_self, Nat.reduceLeDiff, Nat.reduceLT, Nat.reduceAdd, Nat.zero_lt_succ, Nat.lt_add_one, beq_self_eq_true, bne_self_eq_false, ↓reduceIte, Nat.reduceEqDiff, reduceCtorEq, Bool.false_eq_true]
        simp only [clockM, nanoT, if_neg z, List.append_assoc, List.append_nil, List.nil_append, sgnM, absM, if_neg c]
  · by_cases c : y < 0
    · have d_c1 : decide (y < 0) = true := by simp <;> omega
      by_cases z : n = 0
      · subst z
        have z1 : decide ((0 : Int) > 0) = false := rfl
        simp (disch := first | omega | (simp only [List.length_append, List.length_cons, List.length_nil]; omega)) only [go_sem, wrap_i64, wrap_u64, X_stamp_Text, c_stamp_Text, hd, pad_ans, ib_quo, ib_rem, tdp, tmp, f1, f2, d_a2, e1, e2, d_c1, z1, Bool.not_true, Bool.not_false, Bool.true_and, Bool.false_and, Bool.and_true, Bool.and_false, Bool.true_or, Bool.false_or, Bool.or_true, Bool.or_false, true_and, and_true, and_self, Nat.reduceLeDiff, Nat.reduceLT, Nat.reduceAdd, Nat.zero_lt_succ, Nat.lt_add_one, beq_self_eq_true, bne_self_eq_false, ↓reduceIte, Nat.reduceEqDiff, reduceCtorEq, Bool.false_eq_true]
        simp only [clockM, nanoT, if_true, List.append_assoc, List.append_nil, List.nil_append, sgnM, absM, if_pos c]
      · have d_z1 : decide (n > 0) = true := by simp <;> omega
        have ht := trimRight_ans (f := padM n 9) (by omega) (pad_ne _ _ (by omega) (by omega))
        simp (disch := first | omega | (simp only [List.length_append, List.length_cons, List.length_nil]; omega)) only [go_sem, wrap_i64, wrap_u64, X_stamp_Text, c_stamp_Text, hd, pad_ans, ib_quo, ib_rem, tdp, tmp, f1, f2, d_a2, e1, e2, d_c1, d_z1, ht, Bool.not_true, Bool.not_false, Bool.true_and, Bool.false_and, Bool.and_true, Bool.and_false, Bool.true_or, Bool.false_or, Bool.or_true, Bool.or_false, true_and, and_true, and_self, Nat.reduceLeDiff, Nat.reduceLT, Nat.reduceAdd, Nat.zero_lt_succ, Nat.lt_add_one, beq_self_eq_true, bne_self_eq_false, ↓reduceIte, Nat.reduceEqDiff, reduceCtorEq, Bool.false_eq_true]
        simp only [clockM, nanoT, if_neg z, List.append_assoc, List.append_nil, List.nil_append, sgnM, absM, if_pos c]
    · have d_c1 : decide (y < 0) = false := by simp <;> omega
      by_cases z : n = 0
      · subst z
        have z1 : decide ((0 : Int) > 0) = false := rfl
        simp (disch := first | omega | (simp only [List.length_append, List.length_cons, List.length_nil]; omega)) only [go_sem, wrap_i64, wrap_u64, X_stamp_Text, c_stamp_Text, hd, pad_ans, ib_quo, ib_rem, tdp, tmp, f1, f2, d_a2, e1, e2, d_c1, z1, Bool.not_true, Bool.not_false, Bool.true_and, Bool.false_and, Bool.and_true, Bool.and_false, Bool.true_or, Bool.false_or, Bool.or_true, Bool.or_false, true_and, and_true, and_self, Nat.reduceLeDiff, Nat.reduceLT, Nat.reduceAdd, Nat.zero_lt_succ, Nat.lt_add_one, beq_self_eq_true, bne_self_eq_false, ↓reduceIte, Nat.reduceEqDiff, reduceCtorEq, Bool.false_eq_true]
        simp only [clockM, nanoT, if_true, List.append_assoc, List.append_nil, List.nil_append, sgnM, absM, if_neg c]
      · have d_z1 : decide (n > 0) = true := by simp <;> omega
        have ht := trimRight_ans (f := padM n 9) (by omega) (pad_ne _ _ (by omega) (by omega))
        simp (disch := first | omega | (simp only [List.length_append, List.length_cons, List.length_nil]; omega)) only [go_sem, wrap_i64, wrap_u64, X_stamp_Text, c_stamp_Text, hd, pad_ans, ib_quo, ib_rem, tdp, tmp, f1, f2, d_a2, e1, e2, d_c1, d_z1, ht, Bool.not_true, Bool.not_false, Bool.true_and, Bool.false_and, Bool.and_true, Bool.and_false, Bool.true_or, Bool.false_or, Bool.or_true, Bool.or_false, true_and, and_true, and_self, Nat.reduceLeDiff, Nat.reduceLT, Nat.reduceAdd, Nat.zero_lt_succ, Nat.lt_add_one, beq_self_eq_true, bne_self_eq_false, ↓reduceIte, Nat.reduceEqDiff, reduceCtorEq, Bool.false_eq_true]
        simp only [clockM, nanoT, if_neg z, List.append_assoc, List.append_nil, List.nil_append, sgnM, absM, if_neg c]

def okS (y m d h mi sc : Int) : Prop := okD y m d ∧ 0 ≤ h ∧ h ≤ 23 ∧ 0 ≤ mi ∧ mi ≤ 59 ∧ 0 ≤ sc ∧ sc ≤ 59
theorem secs_ok {y m d h mi sc : Int} (k : okS y m d h mi sc) : evL cfg n_stamp_Seconds 0 [.d (.int .i64 y), .d (.int .i64 m), .d (.int .i64 d), .d (.int .i64 h), .d (.int .i64 mi), .d (.int .i64 sc)] [] =
    some (.d (.tup [.int .i64 ((first y + cum y m + d - 1) * 86400 + (h * 3600 + mi * 60 + sc)), .bool true]), []) := by
  rw [o_stamp_Seconds]
  obtain ⟨k0, k1, k2, k3, k4, k5, k6⟩ := k
  have hd := days_ok k0
  obtain ⟨g1, g2, g3, g4, g5, g6⟩ := k0
  have hm := mlen_room y m
  have hf := first_room g1 g2
  have hc := cum_roomy y m g3 g4
  have d_a : decide (h < 0) = false := by simp <;> omega
  have d_b : decide (h > 23) = false := by simp <;> omega
  have d_c : decide (mi < 0) = false := by simp <;> omega
  have d_e : decide (mi > 59) = false := by simp <;> omega
  have d_f : decide (sc < 0) = false := by simp <;> omega
  have d_g : decide (sc > 59) = false := by simp <;> omega
  simp (disch := first | omega | (simp only [List.length_append, List.length_cons, List.length_nil]; omega)) only [go_sem, wrap_i64, wrap_u64, X_stamp_Seconds, c_stamp_Seconds, hd, d_a, d_b, d_c, d_e, d_f, d_g, Bool.not_true, Bool.not_false, Bool.true_and, Bool.false_and, Bool.and_true, Bool.and_false, Bool.true_or, Bool.false_or, Bool.or_true, Bool.or_false, true_and, and_true, and_self, Nat.reduceLeDiff, Nat.reduceLT, Nat.reduceAdd, Nat.zero_lt_succ, Nat.lt_add_one, beq_self_eq_true, bne_self_eq_false, ↓reduceIte, Nat.reduceEqDiff, reduceCtorEq, Bool.false_eq_true]
theorem refSecs_ok {y m d h mi sc : Int} (k : okS y m d h mi sc) : evL cfg n_ingotref12_Seconds 0 [.d (.int .i64 y), .d (.int .i64 m), .d (.int .i64 d), .d (.int .i64 h), .d (.int .i64 mi), .d (.int .i64 sc)] [] =
    some (.d (.tup [.int .i64 ((first y + cum y m + d - 1) * 86400 + (h * 3600 + mi * 60 + sc)), .bool true]), []) := by
  rw [o_ingotref12_Seconds]
  obtain ⟨k0, k1, k2, k3, k4, k5, k6⟩ := k
  have hd := refDays_ok k0
  obtain ⟨g1, g2, g3, g4, g5, g6⟩ := k0
  have hm := mlen_room y m
  have hf := first_room g1 g2
  have hc := cum_roomy y m g3 g4
  have d_a : decide (h < 0) = false := by simp <;> omega
  have d_b : decide (h > 23) = false := by simp <;> omega
  have d_c : decide (mi < 0) = false := by simp <;> omega
  have d_e : decide (mi > 59) = false := by simp <;> omega
  have d_f : decide (sc < 0) = false := by simp <;> omega
  have d_g : decide (sc > 59) = false := by simp <;> omega
  have q : 3600 * h + 60 * mi + sc = h * 3600 + mi * 60 + sc := by omega
  simp (disch := first | omega | (simp only [List.length_append, List.length_cons, List.length_nil]; omega)) only [go_sem, wrap_i64, wrap_u64, X_ingotref12_Seconds, c_ingotref12_Seconds, hd, d_a, d_b, d_c, d_e, d_f, d_g, q, Bool.not_true, Bool.not_false, Bool.true_and, Bool.false_and, Bool.and_true, Bool.and_false, Bool.true_or, Bool.false_or, Bool.or_true, Bool.or_false, true_and, and_true, and_self, Nat.reduceLeDiff, Nat.reduceLT, Nat.reduceAdd, Nat.zero_lt_succ, Nat.lt_add_one, beq_self_eq_true, bne_self_eq_false, ↓reduceIte, Nat.reduceEqDiff, reduceCtorEq, Bool.false_eq_true]
theorem secs_no {y m d h mi sc : Int} (k : ¬ okS y m d h mi sc) : evL cfg n_stamp_Seconds 0 [.d (.int .i64 y), .d (.int .i64 m), .d (.int .i64 d), .d (.int .i64 h), .d (.int .i64 mi), .d (.int .i64 sc)] [] =
    some (.d (.tup [.int .i64 0, .bool false]), []) := by
  rw [o_stamp_Seconds]
  by_cases k0 : okD y m d
  · have hd := days_ok k0
    have k1 : ¬ (0 ≤ h ∧ h ≤ 23 ∧ 0 ≤ mi ∧ mi ≤ 59 ∧ 0 ≤ sc ∧ sc ≤ 59) := fun c => k ⟨k0, c⟩
    rcases Bool.eq_false_or_eq_true (decide (h < 0)) with a | a
    · simp (disch := first | omega | (simp only [List.length_append, List.length_cons, List.length_nil]; omega)) only [go_sem, wrap_i64, wrap_u64, X_stamp_Seconds, c_stamp_Seconds, hd, a, Bool.not_true, Bool.not_false, Bool.true_and, Bool.false_and, Bool.and_true, Bool.and_false, Bool.true_or, Bool.false_or, Bool.or_true, Bool.or_false, true_and, and_true, and_self, Nat.reduceLeDiff, Nat.reduceLT, Nat.reduceAdd, Nat.zero_lt_succ, Nat.lt_add_one, beq_self_eq_true, bne_self_eq_false, ↓reduceIte, Nat.reduceEqDiff, reduceCtorEq, Bool.false_eq_true]
    rcases Bool.eq_false_or_eq_true (decide (h > 23)) with b | b
    · simp (disch := first | omega | (simp only [List.length_append, List.length_cons, List.length_nil]; omega)) only [go_sem, wrap_i64, wrap_u64, X_stamp_Seconds, c_stamp_Seconds, hd, a, b, Bool.not_true, Bool.not_false, Bool.true_and, Bool.false_and, Bool.and_true, Bool.and_false, Bool.true_or, Bool.false_or, Bool.or_true, Bool.or_false, true_and, and_true, and_self, Nat.reduceLeDiff, Nat.reduceLT, Nat.reduceAdd, Nat.zero_lt_succ, Nat.lt_add_one, beq_self_eq_true, bne_self_eq_false, ↓reduceIte, Nat.reduceEqDiff, reduceCtorEq, Bool.false_eq_true]
    rcases Bool.eq_false_or_eq_true (decide (mi < 0)) with c | c
    · simp (disch := first | omega | (simp only [List.length_append, List.length_cons, List.length_nil]; omega)) only [go_sem, wrap_i64, wrap_u64, X_stamp_Seconds, c_stamp_Seconds, hd, a, b, c, Bool.not_true, Bool.not_false, Bool.true_and, Bool.false_and, Bool.and_true, Bool.and_false, Bool.true_or, Bool.false_or, Bool.or_true, Bool.or_false, true_and, and_true, and_self, Nat.reduceLeDiff, Nat.reduceLT, Nat.reduceAdd, Nat.zero_lt_succ, Nat.lt_add_one, beq_self_eq_true, bne_self_eq_false, ↓reduceIte, Nat.reduceEqDiff, reduceCtorEq, Bool.false_eq_true]
    rcases Bool.eq_false_or_eq_true (decide (mi > 59)) with e | e
    · simp (disch := first | omega | (simp only [List.length_append, List.length_cons, List.length_nil]; omega)) only [go_sem, wrap_i64, wrap_u64, X_stamp_Seconds, c_stamp_Seconds, hd, a, b, c, e, Bool.not_true, Bool.not_false, Bool.true_and, Bool.false_and, Bool.and_true, Bool.and_false, Bool.true_or, Bool.false_or, Bool.or_true, Bool.or_false, true_and, and_true, and_self, Nat.reduceLeDiff, Nat.reduceLT, Nat.reduceAdd, Nat.zero_lt_succ, Nat.lt_add_one, beq_self_eq_true, bne_self_eq_false, ↓reduceIte, Nat.reduceEqDiff, reduceCtorEq, Bool.false_eq_true]
    rcases Bool.eq_false_or_eq_true (decide (sc < 0)) with f | f
    · simp (disch := first | omega | (simp only [List.length_append, List.length_cons, List.length_nil]; omega)) only [go_sem, wrap_i64, wrap_u64, X_stamp_Seconds, c_stamp_Seconds, hd, a, b, c, e, f, Bool.not_true, Bool.not_false, Bool.true_and, Bool.false_and, Bool.and_true, Bool.and_false, Bool.true_or, Bool.false_or, Bool.or_true, Bool.or_false, true_and, and_true, and_self, Nat.reduceLeDiff, Nat.reduceLT, Nat.reduceAdd, Nat.zero_lt_succ, Nat.lt_add_one, beq_self_eq_true, bne_self_eq_false, ↓reduceIte, Nat.reduceEqDiff, reduceCtorEq, Bool.false_eq_true]
    rcases Bool.eq_false_or_eq_true (decide (sc > 59)) with g | g
    · simp (disch := first | omega | (simp only [List.length_append, List.length_cons, List.length_nil]; omega)) only [go_sem, wrap_i64, wrap_u64, X_stamp_Seconds, c_stamp_Seconds, hd, a, b, c, e, f, g, Bool.not_true, Bool.not_false, Bool.true_and, Bool.false_and, Bool.and_true, Bool.and_false, Bool.true_or, Bool.false_or, Bool.or_true, Bool.or_false, true_and, and_true, and_self, Nat.reduceLeDiff, Nat.reduceLT, Nat.reduceAdd, Nat.zero_lt_succ, Nat.lt_add_one, beq_self_eq_true, bne_self_eq_false, ↓reduceIte, Nat.reduceEqDiff, reduceCtorEq, Bool.false_eq_true]
    simp at a b c e f g
    omega
  · have hd := days_no k0
    simp (disch := first | omega | (simp only [List.length_append, List.length_cons, List.length_nil]; omega)) only [go_sem, wrap_i64, wrap_u64, X_stamp_Seconds, c_stamp_Seconds, hd, Bool.not_true, Bool.not_false, Bool.true_and, Bool.false_and, Bool.and_true, Bool.and_false, Bool.true_or, Bool.false_or, Bool.or_true, Bool.or_false, true_and, and_true, and_self, Nat.reduceLeDiff, Nat.reduceLT, Nat.reduceAdd, Nat.zero_lt_succ, Nat.lt_add_one, beq_self_eq_true, bne_self_eq_false, ↓reduceIte, Nat.reduceEqDiff, reduceCtorEq, Bool.false_eq_true]
theorem refSecs_no {y m d h mi sc : Int} (k : ¬ okS y m d h mi sc) : evL cfg n_ingotref12_Seconds 0 [.d (.int .i64 y), .d (.int .i64 m), .d (.int .i64 d), .d (.int .i64 h), .d (.int .i64 mi), .d (.int .i64 sc)] [] =
    some (.d (.tup [.int .i64 0, .bool false]), []) := by
  rw [o_ingotref12_Seconds]
  by_cases k0 : okD y m d
  · have hd := refDays_ok k0
    have k1 : ¬ (0 ≤ h ∧ h ≤ 23 ∧ 0 ≤ mi ∧ mi ≤ 59 ∧ 0 ≤ sc ∧ sc ≤ 59) := fun c => k ⟨k0, c⟩
    rcases Bool.eq_false_or_eq_true (decide (h < 0)) with a | a
    · simp (disch := first | omega | (simp only [List.length_append, List.length_cons, List.length_nil]; omega)) only [go_sem, wrap_i64, wrap_u64, X_ingotref12_Seconds, c_ingotref12_Seconds, hd, a, Bool.not_true, Bool.not_false, Bool.true_and, Bool.false_and, Bool.and_true, Bool.and_false, Bool.true_or, Bool.false_or, Bool.or_true, Bool.or_false, true_and, and_true, and_self, Nat.reduceLeDiff, Nat.reduceLT, Nat.reduceAdd, Nat.zero_lt_succ, Nat.lt_add_one, beq_self_eq_true, bne_self_eq_false, ↓reduceIte, Nat.reduceEqDiff, reduceCtorEq, Bool.false_eq_true]
    rcases Bool.eq_false_or_eq_true (decide (h > 23)) with b | b
    · simp (disch := first | omega | (simp only [List.length_append, List.length_cons, List.length_nil]; omega)) only [go_sem, wrap_i64, wrap_u64, X_ingotref12_Seconds, c_ingotref12_Seconds, hd, a, b, Bool.not_true, Bool.not_false, Bool.true_and, Bool.false_and, Bool.and_true, Bool.and_false, Bool.true_or, Bool.false_or, Bool.or_true, Bool.or_false, true_and, and_true, and_self, Nat.reduceLeDiff, Nat.reduceLT, Nat.reduceAdd, Nat.zero_lt_succ, Nat.lt_add_one, beq_self_eq_true, bne_self_eq_false, ↓reduceIte, Nat.reduceEqDiff, reduceCtorEq, Bool.false_eq_true]
    rcases Bool.eq_false_or_eq_true (decide (mi < 0)) with c | c
    · simp (disch := first | omega | (simp only [List.length_append, List.length_cons, List.length_nil]; omega)) only [go_sem, wrap_i64, wrap_u64, X_ingotref12_Seconds, c_ingotref12_Seconds, hd, a, b, c, Bool.not_true, Bool.not_false, Bool.true_and, Bool.false_and, Bool.and_true, Bool.and_false, Bool.true_or, Bool.false_or, Bool.or_true, Bool.or_false, true_and, and_true, and_self, Nat.reduceLeDiff, Nat.reduceLT, Nat.reduceAdd, Nat.zero_lt_succ, Nat.lt_add_one, beq_self_eq_true, bne_self_eq_false, ↓reduceIte, Nat.reduceEqDiff, reduceCtorEq, Bool.false_eq_true]
    rcases Bool.eq_false_or_eq_true (decide (mi > 59)) with e | e
    · simp (disch := first | omega | (simp only [List.length_append, List.length_cons, List.length_nil]; omega)) only [go_sem, wrap_i64, wrap_u64, X_ingotref12_Seconds, c_ingotref12_Seconds, hd, a, b, c, e, Bool.not_true, Bool.not_false, Bool.true_and, Bool.false_and, Bool.and_true, Bool.and_false, Bool.true_or, Bool.false_or, Bool.or_true, Bool.or_false, true_and, and_true, and_self, Nat.reduceLeDiff, Nat.reduceLT, Nat.reduceAdd, Nat.zero_lt_succ, Nat.lt_add_one, beq_self_eq_true, bne_self_eq_false, ↓reduceIte, Nat.reduceEqDiff, reduceCtorEq, Bool.false_eq_true]
    rcases Bool.eq_false_or_eq_true (decide (sc < 0)) with f | f
    · simp (disch := first | omega | (simp only [List.length_append, List.length_cons, List.length_nil]; omega)) only [go_sem, wrap_i64, wrap_u64, X_ingotref12_Seconds, c_ingotref12_Seconds, hd, a, b, c, e, f, Bool.not_true, Bool.not_false, Bool.true_and, Bool.false_and, Bool.and_true, Bool.and_false, Bool.true_or, Bool.false_or, Bool.or_true, Bool.or_false, true_and, and_true, and_self, Nat.reduceLeDiff, Nat.reduceLT, Nat.reduceAdd, Nat.zero_lt_succ, Nat.lt_add_one, beq_self_eq_true, bne_self_eq_false, ↓reduceIte, Nat.reduceEqDiff, reduceCtorEq, Bool.false_eq_true]
    rcases Bool.eq_false_or_eq_true (decide (sc > 59)) with g | g
    · simp (disch := first | omega | (simp only [List.length_append, List.length_cons, List.length_nil]; omega)) only [go_sem, wrap_i64, wrap_u64, X_ingotref12_Seconds, c_ingotref12_Seconds, hd, a, b, c, e, f, g, Bool.not_true, Bool.not_false, Bool.true_and, Bool.false_and, Bool.and_true, Bool.and_false, Bool.true_or, Bool.false_or, Bool.or_true, Bool.or_false, true_and, and_true, and_self, Nat.reduceLeDiff, Nat.reduceLT, Nat.reduceAdd, Nat.zero_lt_succ, Nat.lt_add_one, beq_self_eq_true, bne_self_eq_false, ↓reduceIte, Nat.reduceEqDiff, reduceCtorEq, Bool.false_eq_true]
    simp at a b c e f g
    omega
  · have hd := refDays_no k0
    simp (disch := first | omega | (simp only [List.length_append, List.length_cons, List.length_nil]; omega)) only [go_sem, wrap_i64, wrap_u64, X_ingotref12_Seconds, c_ingotref12_Seconds, hd, Bool.not_true, Bool.not_false, Bool.true_and, Bool.false_and, Bool.and_true, Bool.and_false, Bool.true_or, Bool.false_or, Bool.or_true, Bool.or_false, true_and, and_true, and_self, Nat.reduceLeDiff, Nat.reduceLT, Nat.reduceAdd, Nat.zero_lt_succ, Nat.lt_add_one, beq_self_eq_true, bne_self_eq_false, ↓reduceIte, Nat.reduceEqDiff, reduceCtorEq, Bool.false_eq_true]
end Go.Proofs.YtpabdojnfiiaoaaDoor
