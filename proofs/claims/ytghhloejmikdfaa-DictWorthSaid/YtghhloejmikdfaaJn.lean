/- Join; numbers that are the same. -/
import Derived.Test.YtghhloejmikdfaaJoi
namespace Go.Proofs.Ytghhloejmikdfaa
open Go Go.Ev
set_option linter.unusedVariables false
set_option linter.unusedSimpArgs false
set_option maxHeartbeats 2000000

def lensT (l : List Tx) : List Int := l.map fun x => (x.length : Int)
theorem dict_Join_loop {l : List Tx} (hn : l.length ≤ 1000000) {K : List Kf} : ∀ (r : List Tx) (i : Nat) (acc : List Int), l.drop i = r → i ≤ l.length → acc.length = i →
    go X_dict_Join (.c (.loop b_dict_Join_7) :: .b 0 :: K) ⟨[(0, .d (.sl ((l).map txt))), (4, .own false 1 (acc.map (D.int .i64))), (10, .d (.sl ((l).map txt))), (11, .d (.int .i64 ((l.length : Int)))), (12, .d (.int .i64 ((i : Int))))], []⟩ =
      go X_dict_Join K ⟨[(0, .d (.sl ((l).map txt))), (4, .own false 1 ((acc ++ lensT r).map (D.int .i64))), (10, .d (.sl ((l).map txt))), (11, .d (.int .i64 ((l.length : Int)))), (12, .d (.int .i64 ((l.length : Int)))), (13, .d (.bool (false)))], []⟩
  | [], i, acc, hr, hi, ha => by
    have h1 := dropEnd hr
    have : i = l.length := by omega
    subst this
    have d_a : decide ((l.length : Int) < l.length) = false := by simp <;> omega
    rw [go_loop, show acc ++ lensT [] = acc by simp [lensT]]
    simp (disch := first | omega | (simp only [go_sem, List.length_take, List.length_drop] <;> omega) | assumption | decide | fail) only [go_sem, X_dict_Join, d_a, Nat.reduceLeDiff, Nat.reduceLT, Nat.reduceAdd, Int.reduceAdd, Int.reduceSub, Int.reduceNeg, ↓reduceIte, Nat.reduceEqDiff, reduceCtorEq]
  | x :: r, i, acc, hr, hi, ha => by
    obtain ⟨hlt, hc, hr'⟩ := dropAt hr
    have d_a : decide ((i : Int) < l.length) = true := by simp <;> omega
    have ih := dict_Join_loop hn (K := K) r (i + 1) (acc ++ [(x.length : Int)]) hr' (by omega) (by simp; omega)
    have e1 : acc ++ [(x.length : Int)] ++ lensT r = acc ++ lensT (x :: r) := by simp [lensT]
    rw [e1, List.map_append, List.map_cons, List.map_nil, show (((i + 1 : Nat)) : Int) = (i : Int) + 1 by omega] at ih
    rw [go_loop, ← ih]
    simp (disch := first | omega | (simp only [go_sem, List.length_take, List.length_drop] <;> omega) | assumption | decide | fail) only [go_sem, X_dict_Join, d_a, hc, Nat.reduceLeDiff, Nat.reduceLT, Nat.reduceAdd, Int.reduceAdd, Int.reduceSub, Int.reduceNeg, ↓reduceIte, Nat.reduceEqDiff, reduceCtorEq]
theorem dict_Join_ans {l : List Tx} (hl : l.flatten.length ≤ 1000000) (hn : l.length ≤ 1000000) : evL cfg n_dict_Join 0 [.d (.sl ((l).map txt))] [] = some (.d (.tup [.sl (l.flatten.map byteD), .sl ((lensT l).map (D.int .i64))]), []) := by
  rw [o_dict_Join]
  have hj := bytes_Join_ans hl hn
  have hw := fun K => dict_Join_loop hn (K := K) l 0 [] rfl (Nat.zero_le _) rfl
  simp only [nc0, List.map_nil, List.nil_append] at hw
  simp (disch := first | omega | (simp only [go_sem, List.length_take, List.length_drop] <;> omega) | assumption | decide | fail) only [go_sem, X_dict_Join, c_dict_Join, hw, hj, landed_joinV, Nat.reduceLeDiff, Nat.reduceLT, Nat.reduceAdd, Int.reduceAdd, Int.reduceSub, Int.reduceNeg, ↓reduceIte, Nat.reduceEqDiff, reduceCtorEq]
theorem law8_Same_loop (a b : List Int) (hab : a.length = b.length) (hl : a.length ≤ 1000000) : ∀ (r q : List Int) (i : Nat), a.drop i = r → b.drop i = q → i ≤ a.length →
    go X_ingotlaw8_Same [.c (.loop b_ingotlaw8_Same_8), .b 0, .c (.seq r_ingotlaw8_Same_9 .ret)] ⟨[(0, .d (.sl ((a).map (D.int .i64)))), (1, .d (.sl ((b).map (D.int .i64)))), (5, .d (.int .i64 ((i : Int))))], []⟩ = some (.d (.bool (r == q)), [])
  | [], q, i, hr, hq, hi => by
    have h1 := dropEnd hr
    have h2 : q = [] := by rw [← hq]; simp; omega
    subst h2
    have d_a : decide ((i : Int) < a.length) = false := by simp <;> omega
    rw [go_loop]
    simp (disch := first | omega | (simp only [go_sem, List.length_take, List.length_drop] <;> omega) | assumption | decide | fail) only [go_sem, X_ingotlaw8_Same, d_a, Nat.reduceLeDiff, Nat.reduceLT, Nat.reduceAdd, Int.reduceAdd, Int.reduceSub, Int.reduceNeg, ↓reduceIte, Nat.reduceEqDiff, reduceCtorEq]
  | x :: r, q, i, hr, hq, hi => by
    obtain ⟨hlt, hc, hr'⟩ := dropAt hr
    cases q with
    | nil =>
      have h1 := dropEnd hq
      omega
    | cons y q =>
      obtain ⟨hlt2, hc2, hq'⟩ := dropAt hq
      have d_a : decide ((i : Int) < a.length) = true := by simp <;> omega
      rw [go_loop]
      by_cases h : x = y
      · subst h
        have ih := law8_Same_loop a b hab hl r q (i + 1) hr' hq' (by omega)
        rw [show (((i + 1 : Nat)) : Int) = (i : Int) + 1 by omega] at ih
        have e : ((x :: r) == (x :: q)) = (r == q) := by simp
        have d2 : (x != x) = false := by simp
        rw [e]
        simp (disch := first | omega | (simp only [go_sem, List.length_take, List.length_drop] <;> omega) | assumption | decide | fail) only [go_sem, X_ingotlaw8_Same, d_a, hc, hc2, d2, Nat.reduceLeDiff, Nat.reduceLT, Nat.reduceAdd, Int.reduceAdd, Int.reduceSub, Int.reduceNeg, ↓reduceIte, Nat.reduceEqDiff, reduceCtorEq]
        exact ih
      · have d2 : (x != y) = true := by simp [h]
        have e : ((x :: r) == (y :: q)) = false := by simp [h]
        rw [e]
        simp (disch := first | omega | (simp only [go_sem, List.length_take, List.length_drop] <;> omega) | assumption | decide | fail) only [go_sem, X_ingotlaw8_Same, d_a, hc, hc2, d2, Nat.reduceLeDiff, Nat.reduceLT, Nat.reduceAdd, Int.reduceAdd, Int.reduceSub, Int.reduceNeg, ↓reduceIte, Nat.reduceEqDiff, reduceCtorEq]
theorem law8_Same_ans {a b : List Int} (ha : a.length ≤ 1000000) (hb : b.length ≤ 1000000) : evL cfg n_ingotlaw8_Same 0 [.d (.sl ((a).map (D.int .i64))), .d (.sl ((b).map (D.int .i64)))] [] = some (.d (.bool (a == b)), []) := by
  rw [o_ingotlaw8_Same]
  by_cases h : a.length = b.length
  · have d_a : ((a.length : Int) != b.length) = false := by simp [h]
    have hl := law8_Same_loop a b h ha a b 0 rfl rfl (by omega)
    simp (disch := first | omega | (simp only [go_sem, List.length_take, List.length_drop] <;> omega) | assumption | decide | fail) only [go_sem, X_ingotlaw8_Same, c_ingotlaw8_Same, d_a, Nat.reduceLeDiff, Nat.reduceLT, Nat.reduceAdd, Int.reduceAdd, Int.reduceSub, Int.reduceNeg, ↓reduceIte, Nat.reduceEqDiff, reduceCtorEq]
    exact hl
  · have d_a : ((a.length : Int) != b.length) = true := by simp; omega
    have e : (a == b) = false := by simp; intro e; exact h (by rw [e])
    rw [e]
    simp (disch := first | omega | (simp only [go_sem, List.length_take, List.length_drop] <;> omega) | assumption | decide | fail) only [go_sem, X_ingotlaw8_Same, c_ingotlaw8_Same, d_a, Nat.reduceLeDiff, Nat.reduceLT, Nat.reduceAdd, Int.reduceAdd, Int.reduceSub, Int.reduceNeg, ↓reduceIte, Nat.reduceEqDiff, reduceCtorEq]
end Go.Proofs.Ytghhloejmikdfaa
