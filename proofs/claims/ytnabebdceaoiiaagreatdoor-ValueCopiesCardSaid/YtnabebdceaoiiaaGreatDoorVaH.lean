/- Values that are the same; ref14's order. -/
import Derived.Test.YtnabebdceaoiiaaGreatDoorVaF
namespace Go.Proofs.YtnabebdceaoiiaaGreatDoor
open Go Go.Ev
set_option linter.unusedVariables false
set_option linter.unusedSimpArgs false
set_option maxHeartbeats 2000000

mutual
def sameV : Va → Va → Bool
  | .mk n i m b ks, y => if !(n == y.null) || i != y.i || m != y.n || !(b == y.b) || (ks.length : Int) != (y.kids.length : Int) then false else gn ks y.kids
def gn : List Va → List Va → Bool
  | k :: r, x :: s => if !sameV k x then false else gn r s
  | _, _ => true
end
theorem sameV_eq (x y : Va) : sameV x y = if !(x.null == y.null) || x.i != y.i || x.n != y.n || !(x.b == y.b) || (x.kids.length : Int) != (y.kids.length : Int) then false else gn x.kids y.kids := by
  cases x with
  | mk nl i n b ks => rw [sameV]; rfl
theorem sameVs_cons (k x : Va) (r s : List Va) : gn (k :: r) (x :: s) = if !sameV k x then false else gn r s := by rw [gn]
theorem sameVs_nil (s : List Va) : gn [] s = true := by rw [gn]; simp
theorem ref14_same_loop (a b : Va) (hl : a.kids.length = b.kids.length) (hz : a.kids.length < 2 ^ 63) (IH : ∀ k ∈ a.kids, ∀ x, evL cfg n_aj 0 [.d k.d, .d x.d] [] = some (.d (.bool (sameV k x)), [])) : ∀ (r s : List Va) (i : Nat), a.kids.drop i = r → b.kids.drop i = s → i ≤ a.kids.length →
    go X_aj [.c (.loop apy), .b 0, .c (.seq alu .ret)] ⟨[(2, .ref 0 2 0), (3, .ref 0 3 0), (5, .d (.int .i64 ((i : Int))))], boxV 2 a ++ boxV 3 b⟩ = some (.d (.bool (gn r s)), [])
  | [], s, i, hr, hs, hi => by
    have := dp hr
    have : i = a.kids.length := by omega
    subst this
    have d_c : decide ((a.kids.length : Int) < a.kids.length) = false := by simp <;> omega
    rw [go_loop, sameVs_nil]
    simp (disch := first | omega | (simp only [go_sem, List.length_take, List.length_drop] <;> omega) | assumption | decide | fail) only [go_sem, X_aj, d_c, boxV, Nat.reduceLeDiff, Nat.reduceLT, Nat.reduceAdd, Int.reduceAdd, Int.reduceSub, Int.reduceNeg, ↓reduceIte, Nat.reduceEqDiff, reduceCtorEq, Int.reduceBEq, Int.reduceBNe, Nat.reduceBEq]
  | k :: r, [], i, hr, hs, hi => by
    have h1 := dp hs
    obtain ⟨hlt, _, _⟩ := e9 hr
    omega
  | k :: r, x :: s, i, hr, hs, hi => by
    obtain ⟨hlt, hc, hr'⟩ := e9 hr
    obtain ⟨hlt', hc', hs'⟩ := e9 hs
    have hf := IH k (List.mem_of_getElem? hc) x
    have d_c : decide ((i : Int) < a.kids.length) = true := by simp <;> omega
    have e1 : (i : Int) + 1 = ((i + 1 : Nat) : Int) := by omega
    rw [go_loop, sameVs_cons]
    generalize sameV k x = q at *
    cases q with
    | false => simp (disch := first | omega | (simp only [go_sem, List.length_take, List.length_drop] <;> omega) | assumption | decide | fail) only [go_sem, X_aj, d_c, hc, hc', hf, boxV, Nat.reduceLeDiff, Nat.reduceLT, Nat.reduceAdd, Int.reduceAdd, Int.reduceSub, Int.reduceNeg, ↓reduceIte, Nat.reduceEqDiff, reduceCtorEq, Int.reduceBEq, Int.reduceBNe, Nat.reduceBEq]
    | true =>
      have ih := ref14_same_loop a b hl hz IH r s (i + 1) hr' hs' (by omega)
      simp only [boxV, List.cons_append, List.nil_append] at ih
      simp (disch := first | omega | (simp only [go_sem, List.length_take, List.length_drop] <;> omega) | assumption | decide | fail) only [go_sem, X_aj, d_c, hc, hc', hf, boxV, e1, ih, Nat.reduceLeDiff, Nat.reduceLT, Nat.reduceAdd, Int.reduceAdd, Int.reduceSub, Int.reduceNeg, ↓reduceIte, Nat.reduceEqDiff, reduceCtorEq, Int.reduceBEq, Int.reduceBNe, Nat.reduceBEq]
theorem ref14_Same_aux : ∀ (m : Nat) (a b : Va), a.size ≤ m → okV a → evL cfg n_aj 0 [.d a.d, .d b.d] [] = some (.d (.bool (sameV a b)), [])
  | 0, v, b, h, _ => by have := v.size_pos; omega
  | m + 1, a, b, h, ho => by
    obtain ⟨_, _, hz, h4⟩ := (okV_eq a).1 ho
    have IH : ∀ k ∈ a.kids, ∀ x, evL cfg n_aj 0 [.d k.d, .d x.d] [] = some (.d (.bool (sameV k x)), []) := fun k hk x => ref14_Same_aux m k x (by have := Va.size_kid hk; omega) (okVs_mem h4 hk)
    rw [o_aj, sameV_eq]
    rcases Bool.eq_false_or_eq_true (a.null == b.null) with x1 | x1
    rotate_left
    · simp (disch := first | omega | (simp only [go_sem, List.length_take, List.length_drop] <;> omega) | assumption | decide | fail) only [go_sem, X_aj, c_aj, x1, Nat.reduceLeDiff, Nat.reduceLT, Nat.reduceAdd, Int.reduceAdd, Int.reduceSub, Int.reduceNeg, ↓reduceIte, Nat.reduceEqDiff, reduceCtorEq, Int.reduceBEq, Int.reduceBNe, Nat.reduceBEq]
    · rcases Bool.eq_false_or_eq_true (a.i != b.i) with x2 | x2
      · simp (disch := first | omega | (simp only [go_sem, List.length_take, List.length_drop] <;> omega) | assumption | decide | fail) only [go_sem, X_aj, c_aj, x1, x2, Nat.reduceLeDiff, Nat.reduceLT, Nat.reduceAdd, Int.reduceAdd, Int.reduceSub, Int.reduceNeg, ↓reduceIte, Nat.reduceEqDiff, reduceCtorEq, Int.reduceBEq, Int.reduceBNe, Nat.reduceBEq]
      · rcases Bool.eq_false_or_eq_true (a.n != b.n) with x3 | x3
        · simp (disch := first | omega | (simp only [go_sem, List.length_take, List.length_drop] <;> omega) | assumption | decide | fail) only [go_sem, X_aj, c_aj, x1, x2, x3, Nat.reduceLeDiff, Nat.reduceLT, Nat.reduceAdd, Int.reduceAdd, Int.reduceSub, Int.reduceNeg, ↓reduceIte, Nat.reduceEqDiff, reduceCtorEq, Int.reduceBEq, Int.reduceBNe, Nat.reduceBEq]
        · rcases Bool.eq_false_or_eq_true (a.b == b.b) with x4 | x4
          rotate_left
          · simp (disch := first | omega | (simp only [go_sem, List.length_take, List.length_drop] <;> omega) | assumption | decide | fail) only [go_sem, X_aj, c_aj, x1, x2, x3, x4, Nat.reduceLeDiff, Nat.reduceLT, Nat.reduceAdd, Int.reduceAdd, Int.reduceSub, Int.reduceNeg, ↓reduceIte, Nat.reduceEqDiff, reduceCtorEq, Int.reduceBEq, Int.reduceBNe, Nat.reduceBEq]
          · rcases Bool.eq_false_or_eq_true ((a.kids.length : Int) != (b.kids.length : Int)) with x5 | x5
            · simp (disch := first | omega | (simp only [go_sem, List.length_take, List.length_drop] <;> omega) | assumption | decide | fail) only [go_sem, X_aj, c_aj, x1, x2, x3, x4, x5, Nat.reduceLeDiff, Nat.reduceLT, Nat.reduceAdd, Int.reduceAdd, Int.reduceSub, Int.reduceNeg, ↓reduceIte, Nat.reduceEqDiff, reduceCtorEq, Int.reduceBEq, Int.reduceBNe, Nat.reduceBEq]
            · have hl : a.kids.length = b.kids.length := by simp at x5; omega
              have h0 := ref14_same_loop a b hl hz IH a.kids b.kids 0 rfl rfl (Nat.zero_le _)
              simp only [boxV, nc0, List.cons_append, List.nil_append] at h0
              simp (disch := first | omega | (simp only [go_sem, List.length_take, List.length_drop] <;> omega) | assumption | decide | fail) only [go_sem, X_aj, c_aj, x1, x2, x3, x4, x5, h0, Nat.reduceLeDiff, Nat.reduceLT, Nat.reduceAdd, Int.reduceAdd, Int.reduceSub, Int.reduceNeg, ↓reduceIte, Nat.reduceEqDiff, reduceCtorEq, Int.reduceBEq, Int.reduceBNe, Nat.reduceBEq]
theorem ref14_Same_ans {a : Va} (b : Va) (h : okV a) : evL cfg n_aj 0 [.d a.d, .d b.d] [] = some (.d (.bool (sameV a b)), []) := ref14_Same_aux _ a b (Nat.le_refl _) h
end Go.Proofs.YtnabebdceaoiiaaGreatDoor
