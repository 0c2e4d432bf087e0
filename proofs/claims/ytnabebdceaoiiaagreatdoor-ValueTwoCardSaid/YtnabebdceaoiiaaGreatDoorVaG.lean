/- Values of leaves compared. -/
import Derived.Test.YtnabebdceaoiiaaGreatDoorTyB
namespace Go.Proofs.YtnabebdceaoiiaaGreatDoor
open Go Go.Ev
set_option linter.unusedVariables false
set_option linter.unusedSimpArgs false
set_option maxHeartbeats 2000000

theorem bytealg_Compare_ans (a b : Tx) : evL cfg n_bytealg_Compare 0 [.d (txt a), .d (txt b)] [] = some (.d (.int .i64 (cmpB a b)), []) := by
  refine evL_of_evFn (n := 1) ?_
  have hx : cfg.ext n_bytealg_Compare = some xCompare := rfl
  simp only [evFn, hx, allD, Option.map_some, Option.bind_some, xCompare, txt, bytesOf_map]
theorem bytes_Compare_ans (a b : Tx) : evL cfg n_bytes_Compare 0 [.d (txt a), .d (txt b)] [] = some (.d (.int .i64 (cmpB a b)), []) := by
  rw [o_bytes_Compare]
  simp (disch := first | omega | (simp only [go_sem, List.length_take, List.length_drop] <;> omega) | assumption | decide | fail) only [go_sem, X_bytes_Compare, c_bytes_Compare, bytealg_Compare_ans, Nat.reduceLeDiff, Nat.reduceLT, Nat.reduceAdd, Int.reduceAdd, Int.reduceSub, Int.reduceNeg, ↓reduceIte, Nat.reduceEqDiff, reduceCtorEq, Int.reduceBEq, Int.reduceBNe, Nat.reduceBEq]
theorem bytes_Equal_ans (a b : Tx) : evL cfg n_bytes_Equal 0 [.d (txt a), .d (txt b)] [] = some (.d (.bool (a == b)), []) := by
  rw [o_bytes_Equal]
  simp (disch := first | omega | (simp only [go_sem, List.length_take, List.length_drop] <;> omega) | assumption | decide | fail) only [go_sem, X_bytes_Equal, c_bytes_Equal, bytesOf_map, Nat.reduceLeDiff, Nat.reduceLT, Nat.reduceAdd, Int.reduceAdd, Int.reduceSub, Int.reduceNeg, ↓reduceIte, Nat.reduceEqDiff, reduceCtorEq, Int.reduceBEq, Int.reduceBNe, Nat.reduceBEq]
def cmpI (a b : Int) : Int := if decide (a < b) then -1 else if decide (a > b) then 1 else 0
def cmpO (a b : Int) : Int := if a != 0 then a else if b != 0 then b else 0
theorem bne_self (a : Int) : (a != a) = false := by simp
theorem isNaN64_ans (a : Int) : evL cfg n_cmp_isNaN_int64 0 [.d (.int .i64 (a))] [] = some (.d (.bool (false)), []) := by
  rw [o_cmp_isNaN_int64]
  simp (disch := first | omega | (simp only [go_sem, List.length_take, List.length_drop] <;> omega) | assumption | decide | fail) only [go_sem, X_cmp_isNaN_int64, c_cmp_isNaN_int64, bne_self, Nat.reduceLeDiff, Nat.reduceLT, Nat.reduceAdd, Int.reduceAdd, Int.reduceSub, Int.reduceNeg, ↓reduceIte, Nat.reduceEqDiff, reduceCtorEq, Int.reduceBEq, Int.reduceBNe, Nat.reduceBEq]
theorem isNaN_ans (a : Int) : evL cfg n_cmp_isNaN_int 0 [.d (.int .i64 (a))] [] = some (.d (.bool (false)), []) := by
  rw [o_cmp_isNaN_int]
  simp (disch := first | omega | (simp only [go_sem, List.length_take, List.length_drop] <;> omega) | assumption | decide | fail) only [go_sem, X_cmp_isNaN_int, c_cmp_isNaN_int, bne_self, Nat.reduceLeDiff, Nat.reduceLT, Nat.reduceAdd, Int.reduceAdd, Int.reduceSub, Int.reduceNeg, ↓reduceIte, Nat.reduceEqDiff, reduceCtorEq, Int.reduceBEq, Int.reduceBNe, Nat.reduceBEq]
theorem cmp64_ans (a b : Int) : evL cfg n_cmp_Compare_int64 0 [.d (.int .i64 (a)), .d (.int .i64 (b))] [] = some (.d (.int .i64 (cmpI a b)), []) := by
  rw [o_cmp_Compare_int64]
  simp (disch := first | omega | (simp only [go_sem, List.length_take, List.length_drop] <;> omega) | assumption | decide | fail) only [go_sem, X_cmp_Compare_int64, c_cmp_Compare_int64, isNaN64_ans, cmpI, Nat.reduceLeDiff, Nat.reduceLT, Nat.reduceAdd, Int.reduceAdd, Int.reduceSub, Int.reduceNeg, ↓reduceIte, Nat.reduceEqDiff, reduceCtorEq, Int.reduceBEq, Int.reduceBNe, Nat.reduceBEq]
  repeat' ((try rw [goQ_b]) <;> split <;> rename_i hh <;> (try simp only [Bool.not_eq_true, Bool.not_eq_false, Bool.not_eq_true', Bool.not_eq_false'] at hh) <;> (try simp (disch := first | omega | (simp only [go_sem, List.length_take, List.length_drop] <;> omega) | assumption | decide | fail) only [*, go_sem, isNaN64_ans, cmpI, Nat.reduceLeDiff, Nat.reduceLT, Nat.reduceAdd, Int.reduceAdd, Int.reduceSub, Int.reduceNeg, ↓reduceIte, Nat.reduceEqDiff, reduceCtorEq, Int.reduceBEq, Int.reduceBNe, Nat.reduceBEq]))
theorem cmpi_ans (a b : Int) : evL cfg n_cmp_Compare_int 0 [.d (.int .i64 (a)), .d (.int .i64 (b))] [] = some (.d (.int .i64 (cmpI a b)), []) := by
  rw [o_cmp_Compare_int]
  simp (disch := first | omega | (simp only [go_sem, List.length_take, List.length_drop] <;> omega) | assumption | decide | fail) only [go_sem, X_cmp_Compare_int, c_cmp_Compare_int, isNaN_ans, cmpI, Nat.reduceLeDiff, Nat.reduceLT, Nat.reduceAdd, Int.reduceAdd, Int.reduceSub, Int.reduceNeg, ↓reduceIte, Nat.reduceEqDiff, reduceCtorEq, Int.reduceBEq, Int.reduceBNe, Nat.reduceBEq]
  repeat' ((try rw [goQ_b]) <;> split <;> rename_i hh <;> (try simp only [Bool.not_eq_true, Bool.not_eq_false, Bool.not_eq_true', Bool.not_eq_false'] at hh) <;> (try simp (disch := first | omega | (simp only [go_sem, List.length_take, List.length_drop] <;> omega) | assumption | decide | fail) only [*, go_sem, isNaN_ans, cmpI, Nat.reduceLeDiff, Nat.reduceLT, Nat.reduceAdd, Int.reduceAdd, Int.reduceSub, Int.reduceNeg, ↓reduceIte, Nat.reduceEqDiff, reduceCtorEq, Int.reduceBEq, Int.reduceBNe, Nat.reduceBEq]))
theorem cmpOr_ans (a b : Int) : evL cfg n_cmp_Or_int 0 [.d (.sl [.int .i64 a, .int .i64 b])] [] = some (.d (.int .i64 (cmpO a b)), []) := by
  rw [o_cmp_Or_int]
  unfold cmpO
  rcases Bool.eq_false_or_eq_true (a != 0) with x | x <;> rcases Bool.eq_false_or_eq_true (b != 0) with y | y <;>
  simp (disch := first | omega | (simp only [go_sem, List.length_take, List.length_drop] <;> omega) | assumption | decide | fail) only [go_sem, X_cmp_Or_int, c_cmp_Or_int, go_loop, x, y, show (((0 + 1 + 1 : Nat)) : Int) = 2 from rfl, show (((1 + 1 : Nat)) : Int) = 2 from rfl, show (((2 : Nat)) : Int) = 2 from rfl, show decide ((0 : Int) < 2) = true from rfl, show decide ((1 : Int) < 2) = true from rfl, show decide ((2 : Int) < 2) = false from rfl, Nat.reduceLeDiff, Nat.reduceLT, Nat.reduceAdd, Int.reduceAdd, Int.reduceSub, Int.reduceNeg, ↓reduceIte, Nat.reduceEqDiff, reduceCtorEq, Int.reduceBEq, Int.reduceBNe, Nat.reduceBEq]
def cmpV (t : Ty) (a b : Va) : Int × Bool :=
  if !leafK t.kind || a.null || b.null then (0, false) else if textK t.kind then (cmpB a.b b.b, true) else (cmpO (cmpI a.i b.i) (cmpI a.n b.n), true)
theorem value_Compare_ans (t : Ty) (a b : Va) : evL cfg n_value_Compare 0 [.d t.d, .d a.d, .d b.d] [] = some (.d (.tup [.int .i64 (cmpV t a b).1, .bool (cmpV t a b).2]), []) := by
  rw [o_value_Compare]
  unfold cmpV
  rcases Bool.eq_false_or_eq_true (leafK t.kind) with x | x <;> rcases Bool.eq_false_or_eq_true a.null with y | y <;> rcases Bool.eq_false_or_eq_true b.null with z | z <;> rcases Bool.eq_false_or_eq_true (textK t.kind) with u | u <;>
  simp (disch := first | omega | (simp only [go_sem, List.length_take, List.length_drop] <;> omega) | assumption | decide | fail) only [go_sem, X_value_Compare, c_value_Compare, x, y, z, u, types_Leaf_ans, value_text_ans, bytes_Compare_ans, cmp64_ans, cmpi_ans, cmpOr_ans, Nat.reduceLeDiff, Nat.reduceLT, Nat.reduceAdd, Int.reduceAdd, Int.reduceSub, Int.reduceNeg, ↓reduceIte, Nat.reduceEqDiff, reduceCtorEq, Int.reduceBEq, Int.reduceBNe, Nat.reduceBEq]
/-! one order -/
theorem cmpI_or (a b c d e f : Int) (x y z : Int) (hx : x = cmpO (cmpI a c) (cmpI b d)) (hy : y = cmpO (cmpI c e) (cmpI d f)) (hz : z = cmpO (cmpI a e) (cmpI b f)) : (x > 0 ∨ y > 0 ∨ z ≤ 0) ∧ (x < 0 ∨ y < 0 ∨ z ≥ 0) := by
  have h : ∀ a b c d : Int, (a < c ∨ (a = c ∧ b < d)) ∧ cmpO (cmpI a c) (cmpI b d) = -1 ∨ (a = c ∧ b = d) ∧ cmpO (cmpI a c) (cmpI b d) = 0 ∨ (a > c ∨ (a = c ∧ b > d)) ∧ cmpO (cmpI a c) (cmpI b d) = 1 := by
    intro a b c d
    unfold cmpO cmpI
    by_cases h1 : a < c
    · exact .inl ⟨.inl h1, by simp [h1]⟩
    · by_cases h2 : a > c
      · exact .inr (.inr ⟨.inl h2, by simp [h1, h2]⟩)
      · have : a = c := by omega
        subst this
        by_cases h3 : b < d
        · exact .inl ⟨.inr ⟨rfl, h3⟩, by simp [h3]⟩
        · by_cases h4 : b > d
          · exact .inr (.inr ⟨.inr ⟨rfl, h4⟩, by simp [h3, h4]⟩)
          · exact .inr (.inl ⟨⟨rfl, by omega⟩, by simp [h3, h4]⟩)
  rcases h a b c d with ⟨h1, e1⟩ | ⟨h1, e1⟩ | ⟨h1, e1⟩ <;> rcases h c d e f with ⟨h2, e2⟩ | ⟨h2, e2⟩ | ⟨h2, e2⟩ <;> rcases h a b e f with ⟨h3, e3⟩ | ⟨h3, e3⟩ | ⟨h3, e3⟩ <;>
    rw [e1] at hx <;> rw [e2] at hy <;> rw [e3] at hz <;> subst hx hy hz <;> omega
theorem cmpB_or (a b c : Tx) : (cmpB a b > 0 ∨ cmpB b c > 0 ∨ cmpB a c ≤ 0) ∧ (cmpB a b < 0 ∨ cmpB b c < 0 ∨ cmpB a c ≥ 0) := by
  have h : ∀ a b : Tx, Op.bytesLess a b = true ∧ cmpB a b = -1 ∨ a = b ∧ cmpB a b = 0 ∨ Op.bytesLess b a = true ∧ cmpB a b = 1 := by
    intro a b
    unfold cmpB
    rcases Bool.eq_false_or_eq_true (Op.bytesLess a b) with h | h
    · exact .inl ⟨h, by simp [h]⟩
    · rcases Bool.eq_false_or_eq_true (Op.bytesLess b a) with h' | h'
      · exact .inr (.inr ⟨h', by simp [h, h']⟩)
      · exact .inr (.inl ⟨bl_tri h h', by simp [h, h']⟩)
  have irr : ∀ {x : Tx}, Op.bytesLess x x = true → False := fun {x} h => by rw [bl_irr] at h; cases h
  rcases h a b with ⟨h1, e1⟩ | ⟨h1, e1⟩ | ⟨h1, e1⟩ <;> rcases h b c with ⟨h2, e2⟩ | ⟨h2, e2⟩ | ⟨h2, e2⟩ <;> rcases h a c with ⟨h3, e3⟩ | ⟨h3, e3⟩ | ⟨h3, e3⟩ <;> rw [e1, e2, e3] <;> first
    | decide
    | (exfalso; subst_vars; first
        | exact irr (bl_trans h1 (bl_trans h2 h3))
        | exact irr (bl_trans h1 h2)
        | exact irr (bl_trans h2 h1)
        | exact irr (bl_trans h1 h3)
        | exact irr (bl_trans h3 h1)
        | exact irr (bl_trans h2 h3)
        | exact irr (bl_trans h3 h2)
        | exact irr (bl_trans h2 (bl_trans h1 h3))
        | exact irr h1
        | exact irr h2
        | exact irr h3)
/-- the order of three -/
theorem cmpV_or (t : Ty) (a b c : Va) (h1 : (cmpV t a b).2 = true) (h2 : (cmpV t b c).2 = true) : (cmpV t a c).2 = true ∧ ((cmpV t a b).1 > 0 ∨ (cmpV t b c).1 > 0 ∨ (cmpV t a c).1 ≤ 0) ∧ ((cmpV t a b).1 < 0 ∨ (cmpV t b c).1 < 0 ∨ (cmpV t a c).1 ≥ 0) := by
  unfold cmpV at *
  generalize leafK t.kind = L at *
  generalize textK t.kind = T at *
  generalize a.null = x at *
  generalize b.null = y at *
  generalize c.null = z at *
  cases L <;> cases x <;> cases y <;> cases z <;> cases T <;> simp at h1 h2 ⊢
  · exact cmpI_or a.i a.n b.i b.n c.i c.n _ _ _ rfl rfl rfl
  · exact cmpB_or a.b b.b c.b
end Go.Proofs.YtnabebdceaoiiaaGreatDoor
