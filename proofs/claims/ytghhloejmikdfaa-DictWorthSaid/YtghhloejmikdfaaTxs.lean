/- Texts: whether they are few, whether they are the same. -/
import Derived.Test.YtghhloejmikdfaaCode
import Derived.Test.YtghhloejmikdfaaL11
namespace Go.Proofs.Ytghhloejmikdfaa
open Go Go.Ev
set_option linter.unusedVariables false
set_option linter.unusedSimpArgs false
set_option maxHeartbeats 2000000

def fewT (l : List (List UInt8)) : Bool := decide (l.length ≤ 150) && l.all fun b => decide (b.length ≤ 200)

theorem law17_few_loop (l : List (List UInt8)) (hl : l.length ≤ 150) : ∀ (r : List (List UInt8)) (i : Nat), l.drop i = r → i ≤ l.length →
    go X_ingotlaw17_few [.c (.loop b_ingotlaw17_few_8), .b 0, .c (.seq r_ingotlaw17_few_9 .ret)] ⟨[(0, .d (.sl ((l).map txt))), (3, .d (.int .i64 ((i : Int))))], []⟩ = some (.d (.bool (r.all fun b => decide (b.length ≤ 200))), [])
  | [], i, hr, hi => by
    have h1 := dropEnd hr
    have d_a : decide ((i : Int) < l.length) = false := by simp <;> omega
    rw [go_loop]
    simp (disch := first | omega | (simp only [go_sem, List.length_take, List.length_drop] <;> omega) | assumption | decide | fail) only [go_sem, X_ingotlaw17_few, d_a, Nat.reduceLeDiff, Nat.reduceLT, Nat.reduceAdd, Int.reduceAdd, Int.reduceSub, Int.reduceNeg, ↓reduceIte, Nat.reduceEqDiff, reduceCtorEq]
  | x :: r, i, hr, hi => by
    obtain ⟨hlt, hc, hr'⟩ := dropAt hr
    have d_a : decide ((i : Int) < l.length) = true := by simp <;> omega
    rw [go_loop]
    by_cases h : x.length ≤ 200
    · have ih := law17_few_loop l hl r (i + 1) hr' (by omega)
      rw [show (((i + 1 : Nat)) : Int) = (i : Int) + 1 by omega] at ih
      have d_b : decide ((x.length : Int) > 200) = false := by simp <;> omega
      have e : decide (x.length ≤ 200) = true := by simpa using h
      simp (disch := first | omega | (simp only [go_sem, List.length_take, List.length_drop] <;> omega) | assumption | decide | fail) only [go_sem, X_ingotlaw17_few, d_a, d_b, hc, e, Nat.reduceLeDiff, Nat.reduceLT, Nat.reduceAdd, Int.reduceAdd, Int.reduceSub, Int.reduceNeg, ↓reduceIte, Nat.reduceEqDiff, reduceCtorEq]
      exact ih
    · have d_b : decide ((x.length : Int) > 200) = true := by simp <;> omega
      have e : decide (x.length ≤ 200) = false := by simpa using h
      simp (disch := first | omega | (simp only [go_sem, List.length_take, List.length_drop] <;> omega) | assumption | decide | fail) only [go_sem, X_ingotlaw17_few, d_a, d_b, hc, e, Nat.reduceLeDiff, Nat.reduceLT, Nat.reduceAdd, Int.reduceAdd, Int.reduceSub, Int.reduceNeg, ↓reduceIte, Nat.reduceEqDiff, reduceCtorEq]
theorem len63 {n : Nat} (h : n ≤ maxLen) : n < 2 ^ 63 := by unfold maxLen at h; omega
theorem wf64 {n : Int} (h : (Lit.int .i64 n).wf = true) : n < 9223372036854775808 := by
  simp [Lit.wf, IntKind.min, IntKind.max, IntKind.signed, IntKind.bits] at h
  omega
theorem law17_few_ans (l : List (List UInt8)) (hl : l.length < 2 ^ 63) : evL cfg n_ingotlaw17_few 0 [.d (.sl ((l).map txt))] [] = some (.d (.bool (fewT l)), []) := by
  rw [o_ingotlaw17_few]
  unfold fewT
  by_cases h : l.length ≤ 150
  · have d_a : decide ((l.length : Int) > 150) = false := by simp <;> omega
    have e : decide (l.length ≤ 150) = true := by simpa using h
    have hl := law17_few_loop l h l 0 rfl (by omega)
    simp (disch := first | omega | (simp only [go_sem, List.length_take, List.length_drop] <;> omega) | assumption | decide | fail) only [go_sem, X_ingotlaw17_few, c_ingotlaw17_few, d_a, e, Nat.reduceLeDiff, Nat.reduceLT, Nat.reduceAdd, Int.reduceAdd, Int.reduceSub, Int.reduceNeg, ↓reduceIte, Nat.reduceEqDiff, reduceCtorEq]
    exact hl
  · have d_a : decide ((l.length : Int) > 150) = true := by simp <;> omega
    have e : decide (l.length ≤ 150) = false := by simpa using h
    simp (disch := first | omega | (simp only [go_sem, List.length_take, List.length_drop] <;> omega) | assumption | decide | fail) only [go_sem, X_ingotlaw17_few, c_ingotlaw17_few, d_a, e, Nat.reduceLeDiff, Nat.reduceLT, Nat.reduceAdd, Int.reduceAdd, Int.reduceSub, Int.reduceNeg, ↓reduceIte, Nat.reduceEqDiff, reduceCtorEq]

theorem law17_Same_loop (a b : List (List UInt8)) (hab : a.length = b.length) (hl : a.length ≤ 1000000) : ∀ (r q : List (List UInt8)) (i : Nat), a.drop i = r → b.drop i = q → i ≤ a.length →
    go X_ingotlaw17_Same [.c (.loop b_ingotlaw17_Same_8), .b 0, .c (.seq r_ingotlaw17_Same_9 .ret)] ⟨[(0, .d (.sl ((a).map txt))), (1, .d (.sl ((b).map txt))), (5, .d (.int .i64 ((i : Int))))], []⟩ = some (.d (.bool (r == q)), [])
  | [], q, i, hr, hq, hi => by
    have h1 := dropEnd hr
    have h2 : q = [] := by rw [← hq]; simp; omega
    subst h2
    have d_a : decide ((i : Int) < a.length) = false := by simp <;> omega
    rw [go_loop]
    simp (disch := first | omega | (simp only [go_sem, List.length_take, List.length_drop] <;> omega) | assumption | decide | fail) only [go_sem, X_ingotlaw17_Same, d_a, Nat.reduceLeDiff, Nat.reduceLT, Nat.reduceAdd, Int.reduceAdd, Int.reduceSub, Int.reduceNeg, ↓reduceIte, Nat.reduceEqDiff, reduceCtorEq]
  | x :: r, q, i, hr, hq, hi => by
    obtain ⟨hlt, hc, hr'⟩ := dropAt hr
    cases q with
    | nil =>
      have h1 := dropEnd hq
      omega
    | cons y q =>
      obtain ⟨hlt2, hc2, hq'⟩ := dropAt hq
      have d_a : decide ((i : Int) < a.length) = true := by simp <;> omega
      rw [go_loop]
      by_cases h : x = y
      · subst h
        have ih := law17_Same_loop a b hab hl r q (i + 1) hr' hq' (by omega)
        rw [show (((i + 1 : Nat)) : Int) = (i : Int) + 1 by omega] at ih
        have e : ((x :: r) == (x :: q)) = (r == q) := by simp
        have d2 : (x == x) = true := by simp
        rw [e]
        simp (disch := first | omega | (simp only [go_sem, List.length_take, List.length_drop] <;> omega) | assumption | decide | fail) only [go_sem, X_ingotlaw17_Same, d_a, hc, hc2, d2, Nat.reduceLeDiff, Nat.reduceLT, Nat.reduceAdd, Int.reduceAdd, Int.reduceSub, Int.reduceNeg, ↓reduceIte, Nat.reduceEqDiff, reduceCtorEq]
        exact ih
      · have d2 : (x == y) = false := by simp [h]
        have e : ((x :: r) == (y :: q)) = false := by simp [h]
        rw [e]
        simp (disch := first | omega | (simp only [go_sem, List.length_take, List.length_drop] <;> omega) | assumption | decide | fail) only [go_sem, X_ingotlaw17_Same, d_a, hc, hc2, d2, Nat.reduceLeDiff, Nat.reduceLT, Nat.reduceAdd, Int.reduceAdd, Int.reduceSub, Int.reduceNeg, ↓reduceIte, Nat.reduceEqDiff, reduceCtorEq]
theorem law17_Same_ans {a b : List (List UInt8)} (ha : a.length ≤ 1000000) (hb : b.length ≤ 1000000) : evL cfg n_ingotlaw17_Same 0 [.d (.sl ((a).map txt)), .d (.sl ((b).map txt))] [] = some (.d (.bool (a == b)), []) := by
  rw [o_ingotlaw17_Same]
  by_cases h : a.length = b.length
  · have d_a : ((a.length : Int) != b.length) = false := by simp [h]
    have hl := law17_Same_loop a b h ha a b 0 rfl rfl (by omega)
    simp (disch := first | omega | (simp only [go_sem, List.length_take, List.length_drop] <;> omega) | assumption | decide | fail) only [go_sem, X_ingotlaw17_Same, c_ingotlaw17_Same, d_a, Nat.reduceLeDiff, Nat.reduceLT, Nat.reduceAdd, Int.reduceAdd, Int.reduceSub, Int.reduceNeg, ↓reduceIte, Nat.reduceEqDiff, reduceCtorEq]
    exact hl
  · have d_a : ((a.length : Int) != b.length) = true := by simp; omega
    have e : (a == b) = false := by simp; intro e; exact h (by rw [e])
    rw [e]
    simp (disch := first | omega | (simp only [go_sem, List.length_take, List.length_drop] <;> omega) | assumption | decide | fail) only [go_sem, X_ingotlaw17_Same, c_ingotlaw17_Same, d_a, Nat.reduceLeDiff, Nat.reduceLT, Nat.reduceAdd, Int.reduceAdd, Int.reduceSub, Int.reduceNeg, ↓reduceIte, Nat.reduceEqDiff, reduceCtorEq]
end Go.Proofs.Ytghhloejmikdfaa
