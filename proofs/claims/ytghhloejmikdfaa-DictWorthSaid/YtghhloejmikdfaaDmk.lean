/- The program's Make, Worth; the document's Worth. -/
import Derived.Test.YtghhloejmikdfaaBin
namespace Go.Proofs.Ytghhloejmikdfaa
open Go Go.Ev
set_option linter.unusedVariables false
set_option linter.unusedSimpArgs false
set_option maxHeartbeats 2000000

theorem rising_ans {l : List Tx} (hl : l.length ≤ 1000000) : evL cfg n_dict_rising 0 [.d (.sl ((l).map txt))] [] = some (if l.isEmpty then .d (.sl []) else .own false 1 ((riseT l).map txt), []) := by
  refine evL_of_evFn (n := 1) ?_
  have hx : cfg.ext n_dict_rising = some xRising := rfl
  cases l with
  | nil => rfl
  | cons x l =>
    simp only [evFn, hx, allD, Option.map_some, Option.bind_some, xRising_cons (l := x :: l) (by simp) hl]
    rfl
theorem landed_rise (k : Nat) {l : List Tx} : landed (some k) false false (if l.isEmpty then .d (.sl []) else .own false 1 ((riseT l).map txt)) = some [(.slot k, .d (.sl ((riseT l).map txt)))] := by
  cases l <;> rfl
theorem dict_Make_words {l ws : List Tx} (hw : ws.length ≤ 1000000) (hb : ∀ x ∈ ws, x.length ≤ 1000000) {K : List Kf} : ∀ (r : List Tx) (i : Nat) (acc : List Tx), ws.drop i = r → i ≤ ws.length → acc.length = i →
    go X_dict_Make (.c (.loop b_dict_Make_8) :: .b 0 :: K) ⟨[(0, .d (.sl ((l).map txt))), (2, .ref 0 2 0), (3, .ref 0 3 0), (4, .d (.sl ((ws).map txt))), (13, .d (.sl ((ws).map txt))), (14, .d (.int .i64 ((ws.length : Int)))), (15, .d (.int .i64 ((i : Int))))], [(⟨0, 2, 0⟩, .d .nilS), (⟨0, 2, 1⟩, .d .nilS), (⟨0, 3, 0⟩, ownL (acc.map txt)), (⟨0, 3, 1⟩, .d .nilS)]⟩ =
      go X_dict_Make K ⟨[(0, .d (.sl ((l).map txt))), (2, .ref 0 2 0), (3, .ref 0 3 0), (4, .d (.sl ((ws).map txt))), (13, .d (.sl ((ws).map txt))), (14, .d (.int .i64 ((ws.length : Int)))), (15, .d (.int .i64 ((ws.length : Int)))), (16, .d (.bool (false)))], [(⟨0, 2, 0⟩, .d .nilS), (⟨0, 2, 1⟩, .d .nilS), (⟨0, 3, 0⟩, ownL ((acc ++ r).map txt)), (⟨0, 3, 1⟩, .d .nilS)]⟩
  | [], i, acc, hr, hi, ha => by
    have h1 := dropEnd hr
    have : i = ws.length := by omega
    subst this
    have d_a : decide ((ws.length : Int) < ws.length) = false := by simp <;> omega
    rw [go_loop, List.append_nil]
    cases acc with
    | nil => simp (disch := first | omega | (simp only [go_sem, List.length_take, List.length_drop] <;> omega) | assumption | decide | fail) only [go_sem, X_dict_Make, d_a, ownL_nil, Nat.reduceLeDiff, Nat.reduceLT, Nat.reduceAdd, Int.reduceAdd, Int.reduceSub, Int.reduceNeg, ↓reduceIte, Nat.reduceEqDiff, reduceCtorEq]
    | cons a acc => simp (disch := first | omega | (simp only [go_sem, List.length_take, List.length_drop] <;> omega) | assumption | decide | fail) only [go_sem, X_dict_Make, d_a, ownL_cons, Nat.reduceLeDiff, Nat.reduceLT, Nat.reduceAdd, Int.reduceAdd, Int.reduceSub, Int.reduceNeg, ↓reduceIte, Nat.reduceEqDiff, reduceCtorEq]
  | x :: r, i, acc, hr, hi, ha => by
    obtain ⟨hlt, hc, hr'⟩ := dropAt hr
    have d_a : decide ((i : Int) < ws.length) = true := by simp <;> omega
    have hx := hb x (List.mem_of_getElem? hc)
    have ih := dict_Make_words (l := l) hw hb (K := K) r (i + 1) (acc ++ [x]) hr' (by omega) (by simp; omega)
    rw [List.append_assoc, List.singleton_append, List.map_append, List.map_cons, List.map_nil, ownL_snoc, show (((i + 1 : Nat)) : Int) = (i : Int) + 1 by omega] at ih
    rw [go_loop, ← ih]
    cases acc with
    | nil => simp (disch := first | omega | (simp only [go_sem, List.length_take, List.length_drop] <;> omega) | assumption | decide | fail) only [go_sem, X_dict_Make, d_a, hc, clone_ans, landed_ownL, ownL_nil, Nat.reduceLeDiff, Nat.reduceLT, Nat.reduceAdd, Int.reduceAdd, Int.reduceSub, Int.reduceNeg, ↓reduceIte, Nat.reduceEqDiff, reduceCtorEq]; rfl
    | cons a acc =>
      rw [List.length_cons] at ha
      simp (disch := first | omega | (simp only [go_sem, List.length_take, List.length_drop] <;> omega) | assumption | decide | fail) only [go_sem, X_dict_Make, d_a, hc, clone_ans, landed_ownL, ownL_cons, Nat.reduceLeDiff, Nat.reduceLT, Nat.reduceAdd, Int.reduceAdd, Int.reduceSub, Int.reduceNeg, ↓reduceIte, Nat.reduceEqDiff, reduceCtorEq]; rfl
theorem dict_Make_index {l ws : List Tx} (hl : l.length ≤ 1000000) (hw : ws.length ≤ 1000000) (hR : Rise ws) {c : V} (hc0 : c.home 0 = c) {K : List Kf} : ∀ (r : List Tx) (i : Nat) (acc : List Int), l.drop i = r → i ≤ l.length → acc.length = i →
    go X_dict_Make (.c (.loop b_dict_Make_15) :: .b 2 :: K) ⟨[(2, .ref 0 2 0), (3, .ref 0 3 0), (4, .d (.sl ((ws).map txt))), (28, .d (.sl ((l).map txt))), (29, .d (.int .i64 ((l.length : Int)))), (30, .d (.int .i64 ((i : Int))))], [(⟨0, 2, 0⟩, .d .nilS), (⟨0, 2, 1⟩, .d .nilS), (⟨0, 3, 0⟩, c), (⟨0, 3, 1⟩, ownL (acc.map (D.int .i64)))]⟩ =
      go X_dict_Make K ⟨[(2, .ref 0 2 0), (3, .ref 0 3 0), (4, .d (.sl ((ws).map txt))), (28, .d (.sl ((l).map txt))), (29, .d (.int .i64 ((l.length : Int)))), (30, .d (.int .i64 ((l.length : Int)))), (31, .d (.bool (false)))], [(⟨0, 2, 0⟩, .d .nilS), (⟨0, 2, 1⟩, .d .nilS), (⟨0, 3, 0⟩, c), (⟨0, 3, 1⟩, ownL ((acc ++ idxT r ws).map (D.int .i64)))]⟩
  | [], i, acc, hr, hi, ha => by
    have h1 := dropEnd hr
    have : i = l.length := by omega
    subst this
    have d_a : decide ((l.length : Int) < l.length) = false := by simp <;> omega
    rw [go_loop, show acc ++ idxT [] ws = acc by simp [idxT]]
    cases acc with
    | nil => simp (disch := first | omega | (simp only [go_sem, List.length_take, List.length_drop] <;> omega) | assumption | decide | fail) only [go_sem, X_dict_Make, d_a, ownL_nil, hc0, Nat.reduceLeDiff, Nat.reduceLT, Nat.reduceAdd, Int.reduceAdd, Int.reduceSub, Int.reduceNeg, ↓reduceIte, Nat.reduceEqDiff, reduceCtorEq]
    | cons a acc => simp (disch := first | omega | (simp only [go_sem, List.length_take, List.length_drop] <;> omega) | assumption | decide | fail) only [go_sem, X_dict_Make, d_a, ownL_cons, hc0, Nat.reduceLeDiff, Nat.reduceLT, Nat.reduceAdd, Int.reduceAdd, Int.reduceSub, Int.reduceNeg, ↓reduceIte, Nat.reduceEqDiff, reduceCtorEq]
  | x :: r, i, acc, hr, hi, ha => by
    obtain ⟨hlt, hc, hr'⟩ := dropAt hr
    have d_a : decide ((i : Int) < l.length) = true := by simp <;> omega
    have ih := dict_Make_index hl hw hR hc0 (K := K) r (i + 1) (acc ++ [(posT x ws : Int)]) hr' (by omega) (by simp; omega)
    have e1 : acc ++ [(posT x ws : Int)] ++ idxT r ws = acc ++ idxT (x :: r) ws := by simp [idxT]
    rw [e1, List.map_append, List.map_cons, List.map_nil, ownL_snoc, show (((i + 1 : Nat)) : Int) = (i : Int) + 1 by omega] at ih
    rw [go_loop, ← ih]
    cases acc with
    | nil => simp (disch := first | omega | (simp only [go_sem, List.length_take, List.length_drop] <;> omega) | assumption | decide | fail) only [go_sem, X_dict_Make, d_a, hc, bsf_ans hw hR, ownL_nil, hc0, Nat.reduceLeDiff, Nat.reduceLT, Nat.reduceAdd, Int.reduceAdd, Int.reduceSub, Int.reduceNeg, ↓reduceIte, Nat.reduceEqDiff, reduceCtorEq]
    | cons a acc =>
      rw [List.length_cons] at ha
      simp (disch := first | omega | (simp only [go_sem, List.length_take, List.length_drop] <;> omega) | assumption | decide | fail) only [go_sem, X_dict_Make, d_a, hc, bsf_ans hw hR, ownL_cons, hc0, Nat.reduceLeDiff, Nat.reduceLT, Nat.reduceAdd, Int.reduceAdd, Int.reduceSub, Int.reduceNeg, ↓reduceIte, Nat.reduceEqDiff, reduceCtorEq]
theorem dict_Make_ans {l : List Tx} (hl : l.length ≤ 1000000) (hb : ∀ x ∈ l, x.length ≤ 1000000) : evL cfg n_dict_Make 0 [.d (.sl ((l).map txt))] [] = some (.d (.agg [.sl ((riseT l).map txt), .sl ((idxT l (riseT l)).map (D.int .i64))]), []) := by
  have hwl := riseT_length l
  have h1 := rising_ans hl
  have hw : ∀ K, _ := fun K => dict_Make_words (l := l) (ws := riseT l) (by omega) (fun x hx => hb x (mem_riseT.1 hx)) (K := K) (riseT l) 0 [] rfl (Nat.zero_le _) rfl
  simp only [nc0, List.map_nil, ownL_nil, List.nil_append] at hw
  have hi : ∀ c hc0 K, _ := fun c hc0 K => dict_Make_index hl (ws := riseT l) (by omega) (rise_riseT l) (c := c) hc0 (K := K) l 0 [] rfl (Nat.zero_le _) rfl
  simp only [nc0, List.map_nil, ownL_nil, List.nil_append] at hi
  cases h : riseT l with
  | nil =>
    have : l = [] := by
      cases l with
      | nil => rfl
      | cons x l => have := (mem_riseT (l := x :: l) (z := x)).2 List.mem_cons_self; rw [h] at this; cases this
    subst this
    exact evL_of_evFn (n := 3) (by kernel_rfl)
  | cons w ws =>
    have hi := hi (.own false 1 ((w :: ws).map txt)) rfl
    have hx : ∃ x r, l = x :: r := by
      cases l with
      | nil => cases h
      | cons x r => exact ⟨x, r, rfl⟩
    obtain ⟨y, q, hq⟩ := hx
    have e : idxT l (w :: ws) = (posT y (w :: ws) : Int) :: idxT q (w :: ws) := by rw [hq]; rfl
    rw [h, e] at hi
    rw [h] at hw
    rw [e]
    simp only [List.map_cons, ownL_cons, List.length_cons] at hw hi
    rw [o_dict_Make]
    have hie : l.isEmpty = false := by rw [hq]; rfl
    simp (disch := first | omega | (simp only [go_sem, List.length_take, List.length_drop] <;> omega) | assumption | decide | fail) only [go_sem, X_dict_Make, c_dict_Make, h1, hie, h, hw, hi, Nat.reduceLeDiff, Nat.reduceLT, Nat.reduceAdd, Int.reduceAdd, Int.reduceSub, Int.reduceNeg, ↓reduceIte, Nat.reduceEqDiff, reduceCtorEq]
end Go.Proofs.Ytghhloejmikdfaa
