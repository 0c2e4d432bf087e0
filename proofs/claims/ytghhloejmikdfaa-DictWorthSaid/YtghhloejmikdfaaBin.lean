/- Compare, search, clones. -/
import Derived.Test.YtghhloejmikdfaaMak
namespace Go.Proofs.Ytghhloejmikdfaa
open Go Go.Ev
set_option linter.unusedVariables false
set_option linter.unusedSimpArgs false
set_option maxHeartbeats 2000000

theorem bytealg_Compare_ans (a b : Tx) : evL cfg n_bytealg_Compare 0 [.d (txt a), .d (txt b)] [] = some (.d (.int .i64 (cmpB a b)), []) := by
  refine evL_of_evFn (n := 1) ?_
  have hx : cfg.ext n_bytealg_Compare = some xCompare := rfl
  simp only [evFn, hx, allD, Option.map_some, Option.bind_some, xCompare, txt, bytesOf_map]
theorem bytes_Compare_ans (a b : Tx) : evL cfg n_bytes_Compare 0 [.d (txt a), .d (txt b)] [] = some (.d (.int .i64 (cmpB a b)), []) := by
  rw [o_bytes_Compare]
  simp (disch := first | omega | (simp only [go_sem, List.length_take, List.length_drop] <;> omega) | assumption | decide | fail) only [go_sem, X_bytes_Compare, c_bytes_Compare, bytealg_Compare_ans, Nat.reduceLeDiff, Nat.reduceLT, Nat.reduceAdd, Int.reduceAdd, Int.reduceSub, Int.reduceNeg, ↓reduceIte, Nat.reduceEqDiff, reduceCtorEq]
theorem cmpB_lt (a b : Tx) : decide (cmpB a b < 0) = Op.bytesLess a b := by
  unfold cmpB
  cases Op.bytesLess a b
  · cases Op.bytesLess b a <;> rfl
  · rfl
theorem cmpB_eq (a b : Tx) : (cmpB a b == 0) = (a == b) := by
  unfold cmpB
  by_cases e : a = b
  · subst e; simp [bl_irr]
  · have : (a == b) = false := by simpa using e
    rw [this]
    rcases Bool.eq_false_or_eq_true (Op.bytesLess a b) with h | h
    · rw [if_pos h]; rfl
    · rw [if_neg (by simp [h])]
      rcases Bool.eq_false_or_eq_true (Op.bytesLess b a) with h' | h'
      · rw [if_pos h']; rfl
      · exact absurd (bl_tri h h') e
theorem clone_ans (b : Tx) (hl : b.length ≤ 1000000) : evL cfg n_slices_Clone_Sbyte_byte 0 [.d (txt b)] [] = some (ownL (b.map byteD), []) := by
  cases b with
  | nil => exact evL_of_evFn (n := 3) (by kernel_rfl)
  | cons c b =>
    rw [o_slices_Clone_Sbyte_byte]
    rw [List.length_cons] at hl
    rw [List.map_cons, ownL_cons]
    simp (disch := first | omega | (simp only [go_sem, List.length_take, List.length_drop] <;> omega) | assumption | decide | fail) only [go_sem, X_slices_Clone_Sbyte_byte, c_slices_Clone_Sbyte_byte, txt, Nat.reduceLeDiff, Nat.reduceLT, Nat.reduceAdd, Int.reduceAdd, Int.reduceSub, Int.reduceNeg, ↓reduceIte, Nat.reduceEqDiff, reduceCtorEq]
theorem landed_ownL (k : Nat) (acc : List D) : landed (some k) false false (ownL acc) = some [(.slot k, .d (.sl acc))] := by
  cases acc <;> rfl

/-- the least place from which on all are no less -/
theorem posT_from {x : Tx} {ws : List Tx} (hR : Rise ws) {k : Nat} (h1 : ∀ i y, i < k → ws[i]? = some y → Op.bytesLess y x = true) (h2 : ∀ i y, k ≤ i → ws[i]? = some y → Op.bytesLess y x = false) (hk : k ≤ ws.length) : posT x ws = k := by
  apply Classical.byContradiction
  intro hne
  rcases Nat.lt_or_gt_of_ne hne with h | h
  · have hlt : posT x ws < ws.length := by omega
    have := posT_at (x := x) (List.getElem?_eq_getElem hlt)
    rw [h1 _ _ h (List.getElem?_eq_getElem hlt)] at this
    cases this
  · have hle := posT_le x ws
    have hlt : k < ws.length := by omega
    have := posT_lt (x := x) h (List.getElem?_eq_getElem hlt)
    rw [h2 _ _ (Nat.le_refl _) (List.getElem?_eq_getElem hlt)] at this
    cases this
theorem bsf_loop {ws : List Tx} (hw : ws.length ≤ 1000000) (hR : Rise ws) (x : Tx) {K : List Kf} : ∀ (n i j : Nat), j - i = n → i ≤ j → j ≤ ws.length → (∀ m y, m < i → ws[m]? = some y → Op.bytesLess y x = true) → (∀ m y, j ≤ m → ws[m]? = some y → Op.bytesLess y x = false) →
    go X_slices_BinarySearchFunc_dict_words_Sbyte_Sbyte (.c (.loop b_slices_BinarySearchFunc_dict_words_Sbyte_Sbyte_8) :: .b 0 :: K) ⟨[(0, .d (.sl ((ws).map txt))), (1, .d (txt x)), (2, .d (.fn n_bytes_Compare)), (8, .d (.int .i64 ((ws.length : Int)))), (9, .d (.int .i64 ((i : Int)))), (10, .d (.int .i64 ((j : Int))))], []⟩ =
      go X_slices_BinarySearchFunc_dict_words_Sbyte_Sbyte K ⟨[(0, .d (.sl ((ws).map txt))), (1, .d (txt x)), (2, .d (.fn n_bytes_Compare)), (8, .d (.int .i64 ((ws.length : Int)))), (9, .d (.int .i64 (((posT x ws : Nat) : Int)))), (10, .d (.int .i64 (((posT x ws : Nat) : Int)))), (17, .d (.bool (false)))], []⟩ := by
  intro n
  induction n using Nat.strongRecOn with
  | _ n IH =>
    intro i j hn hij hj h1 h2
    rw [go_loop]
    by_cases hlt : i < j
    · have d_a : decide ((i : Int) < j) = true := by simp <;> omega
      have hm : (i + j) / 2 < ws.length := by omega
      have hc := List.getElem?_eq_getElem hm
      have e1 : IntKind.u64.wrap ((i : Int) + j) = ((i + j : Nat) : Int) := by rw [wrap_u64 (by omega) (by omega)]; omega
      have e2 := shr_one (i + j)
      have e3 : IntKind.i64.wrap (((i + j) / 2 : Nat) : Int) = (((i + j) / 2 : Nat) : Int) := wrap_i64 (by omega) (by omega)
      rcases Bool.eq_false_or_eq_true (Op.bytesLess ws[(i + j) / 2] x) with h | h
      · have ih := IH (j - ((i + j) / 2 + 1)) (by omega) ((i + j) / 2 + 1) j rfl (by omega) hj (fun m y hm2 hy => by
          rcases Nat.lt_or_eq_of_le (Nat.lt_succ_iff.1 hm2) with h3 | h3
          · exact bl_trans (rise_get hR hy hc h3) h
          · subst h3; rw [hc] at hy; cases hy; exact h) h2
        rw [show (((i + j) / 2 + 1 : Nat) : Int) = (((i + j) / 2 : Nat) : Int) + 1 by omega] at ih
        rw [← ih]
        simp (disch := first | omega | (simp only [go_sem, List.length_take, List.length_drop] <;> omega) | assumption | decide | fail) only [go_sem, X_slices_BinarySearchFunc_dict_words_Sbyte_Sbyte, d_a, ib_shr, e1, e2, e3, hc, bytes_Compare_ans, cmpB_lt, h, Nat.reduceLeDiff, Nat.reduceLT, Nat.reduceAdd, Int.reduceAdd, Int.reduceSub, Int.reduceNeg, ↓reduceIte, Nat.reduceEqDiff, reduceCtorEq]
      · have ih := IH ((i + j) / 2 - i) (by omega) i ((i + j) / 2) rfl (by omega) (by omega) h1 (fun m y hm2 hy => by
          rcases Nat.lt_or_eq_of_le hm2 with h3 | h3
          · rcases Bool.eq_false_or_eq_true (Op.bytesLess y x) with h4 | h4
            · exact absurd (bl_trans (rise_get hR hc hy h3) h4) (by simp [h])
            · exact h4
          · subst h3; rw [hc] at hy; cases hy; exact h)
        rw [← ih]
        simp (disch := first | omega | (simp only [go_sem, List.length_take, List.length_drop] <;> omega) | assumption | decide | fail) only [go_sem, X_slices_BinarySearchFunc_dict_words_Sbyte_Sbyte, d_a, ib_shr, e1, e2, e3, hc, bytes_Compare_ans, cmpB_lt, h, Nat.reduceLeDiff, Nat.reduceLT, Nat.reduceAdd, Int.reduceAdd, Int.reduceSub, Int.reduceNeg, ↓reduceIte, Nat.reduceEqDiff, reduceCtorEq]
    · have d_a : decide ((i : Int) < j) = false := by simp <;> omega
      have hp := posT_from hR h1 (fun m y hm2 hy => h2 m y (by omega) hy) (by omega)
      have : j = i := by omega
      subst this
      rw [hp]
      simp (disch := first | omega | (simp only [go_sem, List.length_take, List.length_drop] <;> omega) | assumption | decide | fail) only [go_sem, X_slices_BinarySearchFunc_dict_words_Sbyte_Sbyte, d_a, Nat.reduceLeDiff, Nat.reduceLT, Nat.reduceAdd, Int.reduceAdd, Int.reduceSub, Int.reduceNeg, ↓reduceIte, Nat.reduceEqDiff, reduceCtorEq]
theorem bsf_ans {ws : List Tx} (hw : ws.length ≤ 1000000) (hR : Rise ws) (x : Tx) : evL cfg n_slices_BinarySearchFunc_dict_words_Sbyte_Sbyte 0 [.d (.sl ((ws).map txt)), .d (txt x), .d (.fn n_bytes_Compare)] [] = some (.d (.tup [.int .i64 (posT x ws : Nat), .bool (ws[posT x ws]? == some x)]), []) := by
  rw [o_slices_BinarySearchFunc_dict_words_Sbyte_Sbyte]
  have hl := fun K => bsf_loop hw hR x (K := K) ws.length 0 ws.length rfl (Nat.zero_le _) (Nat.le_refl _) (fun m y h => by omega) (fun m y h hy => by rw [List.getElem?_eq_none h] at hy; cases hy)
  simp only [nc0] at hl
  have hle := posT_le x ws
  by_cases h : posT x ws < ws.length
  · have d_a : decide (((posT x ws : Nat) : Int) < ws.length) = true := by simp <;> omega
    have hc := List.getElem?_eq_getElem h
    simp (disch := first | omega | (simp only [go_sem, List.length_take, List.length_drop] <;> omega) | assumption | decide | fail) only [go_sem, X_slices_BinarySearchFunc_dict_words_Sbyte_Sbyte, c_slices_BinarySearchFunc_dict_words_Sbyte_Sbyte, hl, d_a, hc, bytes_Compare_ans, cmpB_eq, Nat.reduceLeDiff, Nat.reduceLT, Nat.reduceAdd, Int.reduceAdd, Int.reduceSub, Int.reduceNeg, ↓reduceIte, Nat.reduceEqDiff, reduceCtorEq]
    rfl
  · have d_a : decide (((posT x ws : Nat) : Int) < ws.length) = false := by simp <;> omega
    have hc : ws[posT x ws]? = none := List.getElem?_eq_none (by omega)
    simp (disch := first | omega | (simp only [go_sem, List.length_take, List.length_drop] <;> omega) | assumption | decide | fail) only [go_sem, X_slices_BinarySearchFunc_dict_words_Sbyte_Sbyte, c_slices_BinarySearchFunc_dict_words_Sbyte_Sbyte, hl, d_a, hc, Nat.reduceLeDiff, Nat.reduceLT, Nat.reduceAdd, Int.reduceAdd, Int.reduceSub, Int.reduceNeg, ↓reduceIte, Nat.reduceEqDiff, reduceCtorEq]
    rfl
end Go.Proofs.Ytghhloejmikdfaa
