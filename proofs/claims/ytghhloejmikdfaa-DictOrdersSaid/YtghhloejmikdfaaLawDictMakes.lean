/- DictMakes holds of any texts and any share. -/
import Derived.Test.YtghhloejmikdfaaLawDictBytes
namespace Go.Proofs.Ytghhloejmikdfaa
open Go Go.Ev
set_option linter.unusedVariables false
set_option linter.unusedSimpArgs false
set_option maxHeartbeats 2000000

/-- the numbers tell the texts -/
theorem exp_idx {ws : List Tx} (hR : Rise ws) : ∀ {l : List Tx}, (∀ x ∈ l, x ∈ ws) → expM ws (idxT l ws) = some l
  | [], _ => rfl
  | x :: l, h => by
    have e : idxT (x :: l) ws = (posT x ws : Int) :: idxT l ws := rfl
    rw [e, expM, if_neg (by omega), Int.toNat_natCast, posT_mem hR (h x List.mem_cons_self), Option.bind_some, exp_idx hR (fun y hy => h y (List.mem_cons_of_mem _ hy))]
    rfl
theorem idxT_length (l ws : List Tx) : (idxT l ws).length = l.length := by simp [idxT]
theorem makes_loop {l : List Tx} (hl : l.length ≤ 150) {ix : List D} {share : Int} : ∀ (r : List Tx) (i : Nat), (riseT l).drop i = r → 1 ≤ i → i ≤ (riseT l).length ∨ i = 1 →
    go X_ingotlaw17_DictMakes [.c (.loop b_ingotlaw17_DictMakes_15), .b 0, .c (.seq r_ingotlaw17_DictMakes_16 .ret)] ⟨[(5, .ref 0 5 0), (10, .d (.int .i64 ((i : Int))))], [(⟨0, 5, 0⟩, .d (.sl ((riseT l).map txt))), (⟨0, 5, 1⟩, .d (.sl ix))]⟩ = some (.d (.bool (true)), [])
  | [], i, hr, h1, hi => by
    have h2 := dropEnd hr
    have d_a : decide ((i : Int) < (riseT l).length) = false := by simp <;> omega
    rw [go_loop]
    simp (disch := first | omega | (simp only [go_sem, List.length_take, List.length_drop] <;> omega) | assumption | decide | fail) only [go_sem, X_ingotlaw17_DictMakes, d_a, Nat.reduceLeDiff, Nat.reduceLT, Nat.reduceAdd, Int.reduceAdd, Int.reduceSub, Int.reduceNeg, ↓reduceIte, Nat.reduceEqDiff, reduceCtorEq]
  | x :: r, i, hr, h1, hi => by
    obtain ⟨hlt, hc, hr'⟩ := dropAt hr
    have d_a : decide ((i : Int) < (riseT l).length) = true := by simp <;> omega
    have hwl := riseT_length l
    have hp : i - 1 < (riseT l).length := by omega
    have hc2 := List.getElem?_eq_getElem hp
    have hless := rise_get (rise_riseT l) hc2 hc (by omega)
    have ih := makes_loop hl (ix := ix) (share := share) r (i + 1) hr' (by omega) (.inl (by omega))
    rw [show (((i + 1 : Nat)) : Int) = (i : Int) + 1 by omega] at ih
    have e1 : (i : Int) - 1 = ((i - 1 : Nat) : Int) := by omega
    rw [go_loop]
    simp (disch := first | omega | (simp only [go_sem, List.length_take, List.length_drop] <;> omega) | assumption | decide | fail) only [go_sem, X_ingotlaw17_DictMakes, d_a, hc, hc2, hless, e1, Nat.reduceLeDiff, Nat.reduceLT, Nat.reduceAdd, Int.reduceAdd, Int.reduceSub, Int.reduceNeg, ↓reduceIte, Nat.reduceEqDiff, reduceCtorEq]
    exact ih
theorem lawDictMakes (l : List Tx) (hl : l.length < 2 ^ 63) (s : Int) : evL cfg n_ingotlaw17_DictMakes 0 [.d (.sl ((l).map txt)), .d (.int .i64 (s))] [] = some (.d (.bool (true)), []) := by
  rw [o_ingotlaw17_DictMakes]
  have hf := law17_few_ans l hl
  rcases Bool.eq_false_or_eq_true (fewT l) with h | h
  · obtain ⟨h1, h2⟩ := fewT_len h
    have hwl := riseT_length l
    have c1 := dict_Make_ans (l := l) (by omega) (fun x hx => by have := h2 x hx; omega)
    have c2 := ref17_Make_ans (l := l) (by omega)
    have c3 := dict_Expand_ans (ws := riseT l) (ix := idxT l (riseT l)) (by omega) (fun x hx => by have := h2 x (mem_riseT.1 hx); omega) (by rw [idxT_length]; omega)
    rw [exp_idx (rise_riseT l) (fun x hx => mem_riseT.2 hx)] at c3
    simp only [expD, List.nil_append] at c3
    have s1 := law17_Same_ans (a := riseT l) (b := riseT l) (by omega) (by omega)
    have s2 := law8_Same_ans (a := idxT l (riseT l)) (b := idxT l (riseT l)) (by rw [idxT_length]; omega) (by rw [idxT_length]; omega)
    have s3 := law17_Same_ans (a := l) (b := l) (by omega) (by omega)
    have w1 := dict_Worth_ans (l := l) (by omega) s
    have w2 := ref17_Worth_ans (l := l) (by omega) s
    have hlp := makes_loop h1 (ix := (idxT l (riseT l)).map (D.int .i64)) (share := s) ((riseT l).drop 1) 1 rfl (by omega) (.inr rfl)
    simp (disch := first | omega | (simp only [go_sem, List.length_take, List.length_drop] <;> omega) | assumption | decide | fail) only [go_sem, X_ingotlaw17_DictMakes, c_ingotlaw17_DictMakes, known_ok, hf, h, c1, c2, c3, s1, s2, s3, w1, w2, D.eqn, V.eqn, Nat.reduceLeDiff, Nat.reduceLT, Nat.reduceAdd, Int.reduceAdd, Int.reduceSub, Int.reduceNeg, ↓reduceIte, Nat.reduceEqDiff, reduceCtorEq]
    exact hlp
  · simp (disch := first | omega | (simp only [go_sem, List.length_take, List.length_drop] <;> omega) | assumption | decide | fail) only [go_sem, X_ingotlaw17_DictMakes, c_ingotlaw17_DictMakes, known_ok, hf, h, Nat.reduceLeDiff, Nat.reduceLT, Nat.reduceAdd, Int.reduceAdd, Int.reduceSub, Int.reduceNeg, ↓reduceIte, Nat.reduceEqDiff, reduceCtorEq]
theorem rowDictMakes (a0 : List Tx) (a1 : Int) (m0 : a0.length ≤ maxLen) (w1 : (Lit.int .i64 a1).wf = true) : evL cfg n_ingotlaw17_DictMakes 0 [.d (.sl ((a0).map txt)), .d (.int .i64 (a1))] [] = some (.d (.bool (true)), []) := lawDictMakes a0 (len63 m0) a1
end Go.Proofs.Ytghhloejmikdfaa
