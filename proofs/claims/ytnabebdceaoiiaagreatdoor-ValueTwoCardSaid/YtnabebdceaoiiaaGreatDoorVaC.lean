/- Values: a kid's type; what is checked of a value. -/
import Derived.Test.YtnabebdceaoiiaaGreatDoorVaB
namespace Go.Proofs.YtnabebdceaoiiaaGreatDoor
open Go Go.Ev
set_option linter.unusedVariables false
set_option linter.unusedSimpArgs false
set_option maxHeartbeats 1000000

theorem tmod_nat (a b : Nat) : ((a : Nat) : Int).tmod (b : Int) = ((a % b : Nat) : Int) := rfl
theorem tmod_two (a : Nat) : ((a : Nat) : Int).tmod 2 = ((a % 2 : Nat) : Int) := rfl
/-- the type of a value's i-th kid -/
def kidT (t : Ty) (vi : Int) (i : Nat) : Option Ty :=
  if t.kind == 10 then t.kids[0]? else if t.kind == 11 then t.kids[i % 2]? else if t.kind == 13 then (if decide (vi < 0) then none else t.kids[vi.toNat]?) else t.kids[i]?
def kidD : Option Ty → D
  | some k => .tup [k.d, .bool true]
  | none => .tup [.agg [.int .i64 0, .sl [], .sl [], .int .i64 0, .int .i64 0, .int .i64 0], .bool false]
theorem kidD_some (k : Ty) : kidD (some k) = .tup [k.d, .bool true] := rfl
theorem kidD_none : kidD none = .tup [.agg [.int .i64 0, .sl [], .sl [], .int .i64 0, .int .i64 0, .int .i64 0], .bool false] := rfl
theorem kid_at (t : Ty) (i : Nat) : (t.kids[i]? = none ∧ decide ((i : Int) ≥ t.kids.length) = true) ∨ ∃ k, t.kids[i]? = some k ∧ decide ((i : Int) ≥ t.kids.length) = false := by
  by_cases h : i < t.kids.length
  · exact .inr ⟨_, List.getElem?_eq_getElem h, by simp; omega⟩
  · exact .inl ⟨List.getElem?_eq_none (by omega), by simp; omega⟩
theorem value_kid_ans (t : Ty) (v : Va) (i : Nat) (hi : i < 2 ^ 63) : evL cfg n_value_kid 0 [.d t.d, .d v.d, .d (.int .i64 ((i : Int)))] [] = some (.d (kidD (kidT t v.i i)), []) := by
  rw [o_value_kid]
  unfold kidT
  rcases Bool.eq_false_or_eq_true ((t.kind == 10)) with d_a | d_a <;> have p_a := d_a <;> simp only [decide_eq_true_eq, decide_eq_false_iff_not, beq_iff_eq, beq_eq_false_iff_ne, ne_eq] at p_a 
  · rcases kid_at t 0 with ⟨h, d⟩ | ⟨k, h, d⟩ <;> simp only [nc0] at d <;> simp (disch := first | omega | (simp only [go_sem, List.length_take, List.length_drop] <;> omega) | assumption | decide | fail) only [go_sem, X_value_kid, c_value_kid, d_a, h, d, kidD_some, kidD_none, Nat.reduceLeDiff, Nat.reduceLT, Nat.reduceAdd, Int.reduceAdd, Int.reduceSub, Int.reduceNeg, ↓reduceIte, Nat.reduceEqDiff, reduceCtorEq, Int.reduceBEq, Int.reduceBNe, Nat.reduceBEq]
  · rcases Bool.eq_false_or_eq_true ((t.kind == 11)) with d_b | d_b <;> have p_b := d_b <;> simp only [decide_eq_true_eq, decide_eq_false_iff_not, beq_iff_eq, beq_eq_false_iff_ne, ne_eq] at p_b 
    · rcases kid_at t (i % 2) with ⟨h, d⟩ | ⟨k, h, d⟩ <;> simp (disch := first | omega | (simp only [go_sem, List.length_take, List.length_drop] <;> omega) | assumption | decide | fail) only [go_sem, X_value_kid, c_value_kid, d_a, d_b, h, d, kidD_some, kidD_none, ib_rem, tmod_two, Nat.reduceLeDiff, Nat.reduceLT, Nat.reduceAdd, Int.reduceAdd, Int.reduceSub, Int.reduceNeg, ↓reduceIte, Nat.reduceEqDiff, reduceCtorEq, Int.reduceBEq, Int.reduceBNe, Nat.reduceBEq]
    · rcases Bool.eq_false_or_eq_true ((t.kind == 13)) with d_c | d_c <;> have p_c := d_c <;> simp only [decide_eq_true_eq, decide_eq_false_iff_not, beq_iff_eq, beq_eq_false_iff_ne, ne_eq] at p_c 
      · rcases Bool.eq_false_or_eq_true (decide (v.i < 0)) with d_e | d_e <;> have p_e := d_e <;> simp only [decide_eq_true_eq, decide_eq_false_iff_not, beq_iff_eq, beq_eq_false_iff_ne, ne_eq] at p_e 
        · simp (disch := first | omega | (simp only [go_sem, List.length_take, List.length_drop] <;> omega) | assumption | decide | fail) only [go_sem, X_value_kid, c_value_kid, d_a, d_b, d_c, d_e, kidD_none, Nat.reduceLeDiff, Nat.reduceLT, Nat.reduceAdd, Int.reduceAdd, Int.reduceSub, Int.reduceNeg, ↓reduceIte, Nat.reduceEqDiff, reduceCtorEq, Int.reduceBEq, Int.reduceBNe, Nat.reduceBEq]
        · obtain ⟨n, hn⟩ : ∃ n : Nat, v.i = n := ⟨v.i.toNat, by omega⟩
          rw [hn] at d_e
          rcases kid_at t n with ⟨h, d⟩ | ⟨k, h, d⟩ <;> simp (disch := first | omega | (simp only [go_sem, List.length_take, List.length_drop] <;> omega) | assumption | decide | fail) only [go_sem, X_value_kid, c_value_kid, d_a, d_b, d_c, hn, d_e, h, d, kidD_some, kidD_none, Nat.reduceLeDiff, Nat.reduceLT, Nat.reduceAdd, Int.reduceAdd, Int.reduceSub, Int.reduceNeg, ↓reduceIte, Nat.reduceEqDiff, reduceCtorEq, Int.reduceBEq, Int.reduceBNe, Nat.reduceBEq]
      · rcases kid_at t i with ⟨h, d⟩ | ⟨k, h, d⟩ <;> simp (disch := first | omega | (simp only [go_sem, List.length_take, List.length_drop] <;> omega) | assumption | decide | fail) only [go_sem, X_value_kid, c_value_kid, d_a, d_b, d_c, h, d, kidD_some, kidD_none, Nat.reduceLeDiff, Nat.reduceLT, Nat.reduceAdd, Int.reduceAdd, Int.reduceSub, Int.reduceNeg, ↓reduceIte, Nat.reduceEqDiff, reduceCtorEq, Int.reduceBEq, Int.reduceBNe, Nat.reduceBEq]
/-- what is wrong of a value by itself -/
def nodeM (t : Ty) (v : Va) : Int :=
  if !namedM t.kind v || (!v.null && !numberM t v.i v.n) then 1 else if v.null then 0 else if longM t v.b then 4 else countM t v.kids.length
mutual
/-- what is wrong of a value -/
def checkV (t : Ty) : Va → Int
  | .mk nl i n b ks => if nodeM t (.mk nl i n b ks) != 0 then nodeM t (.mk nl i n b ks) else if nl then 0 else checkVs t i 0 ks
def checkVs (t : Ty) (vi : Int) (j : Nat) : List Va → Int
  | [] => 0
  | k :: r => match kidT t vi j with
    | none => 1
    | some x => if t.kind == 11 && j % 2 == 0 && k.null then 1 else if checkV x k != 0 then checkV x k else checkVs t vi (j + 1) r
end
theorem checkV_eq (t : Ty) (v : Va) : checkV t v = if nodeM t v != 0 then nodeM t v else if v.null then 0 else checkVs t v.i 0 v.kids := by
  cases v with
  | mk nl i n b ks => rw [checkV]; rfl
theorem checkVs_nil (t : Ty) (vi : Int) (j : Nat) : checkVs t vi j [] = 0 := by rw [checkVs]
theorem checkVs_cons (t : Ty) (vi : Int) (j : Nat) (k : Va) (r : List Va) : checkVs t vi j (k :: r) = match kidT t vi j with
    | none => 1
    | some x => if t.kind == 11 && j % 2 == 0 && k.null then 1 else if checkV x k != 0 then checkV x k else checkVs t vi (j + 1) r := by rw [checkVs]
mutual
/-- numbers are of 64 bits, texts and kids not too many -/
def okV : Va → Prop
  | .mk _ i _ b ks => inI i ∧ b.length < 2 ^ 63 ∧ ks.length < 2 ^ 63 ∧ okVs ks
def okVs : List Va → Prop
  | [] => True
  | k :: r => okV k ∧ okVs r
end
theorem okV_eq (v : Va) : okV v ↔ inI v.i ∧ v.b.length < 2 ^ 63 ∧ v.kids.length < 2 ^ 63 ∧ okVs v.kids := by
  cases v with
  | mk nl i n b ks => rw [okV]; rfl
theorem okVs_mem : ∀ {l : List Va} {k : Va}, okVs l → k ∈ l → okV k
  | x :: l, k, h, hk => by
    rw [okVs] at h
    rcases List.mem_cons.1 hk with e | e
    · rw [e]; exact h.1
    · exact okVs_mem h.2 e
end Go.Proofs.YtnabebdceaoiiaaGreatDoor
