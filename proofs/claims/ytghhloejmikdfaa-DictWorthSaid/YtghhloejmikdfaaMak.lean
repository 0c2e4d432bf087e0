/- The document's Make. -/
import Derived.Test.YtghhloejmikdfaaTxs
import Derived.Test.YtghhloejmikdfaaL11
namespace Go.Proofs.Ytghhloejmikdfaa
open Go Go.Ev
set_option linter.unusedVariables false
set_option linter.unusedSimpArgs false
set_option maxHeartbeats 2000000

/-- the place of a text among words -/
theorem ref17_find {l : List Tx} {i : Nat} {x : Tx} (hx : l[i]? = some x) {ws : List Tx} (hw : ws.length ≤ 1000000) {K : List Kf} : ∀ (r : List Tx) (k : Nat), ws.drop k = r → k ≤ ws.length →
    go X_ingotref17_Make (.c (.loop b_ingotref17_Make_7) :: .b 2 :: K) ⟨[(0, .d (.sl ((l).map txt))), (4, .own false 1 (ws.map txt)), (5, .d (.int .i64 ((i : Int)))), (6, .d (.int .i64 ((k : Int))))], []⟩ =
      go X_ingotref17_Make K ⟨[(0, .d (.sl ((l).map txt))), (4, .own false 1 (ws.map txt)), (5, .d (.int .i64 ((i : Int)))), (6, .d (.int .i64 (((k + posT x r : Nat) : Int)))), (33, .d (.bool (false)))], []⟩
  | [], k, hr, hk => by
    have h1 := dropEnd hr
    have d_a : decide ((k : Int) < ws.length) = false := by simp <;> omega
    rw [go_loop]
    simp (disch := first | omega | (simp only [go_sem, List.length_take, List.length_drop] <;> omega) | assumption | decide | fail) only [go_sem, X_ingotref17_Make, d_a, posT, Nat.add_zero, Nat.reduceLeDiff, Nat.reduceLT, Nat.reduceAdd, Int.reduceAdd, Int.reduceSub, Int.reduceNeg, ↓reduceIte, Nat.reduceEqDiff, reduceCtorEq]
  | y :: r, k, hr, hk => by
    obtain ⟨hlt, hc, hr'⟩ := dropAt hr
    have d_a : decide ((k : Int) < ws.length) = true := by simp <;> omega
    rw [go_loop]
    rcases Bool.eq_false_or_eq_true (Op.bytesLess y x) with h | h
    · have ih := ref17_find hx hw (K := K) r (k + 1) hr' (by omega)
      rw [show (((k + 1 : Nat)) : Int) = (k : Int) + 1 by omega, show k + 1 + posT x r = k + posT x (y :: r) by rw [posT, if_pos h]; omega] at ih
      simp (disch := first | omega | (simp only [go_sem, List.length_take, List.length_drop] <;> omega) | assumption | decide | fail) only [go_sem, X_ingotref17_Make, d_a, hc, hx, h, Nat.reduceLeDiff, Nat.reduceLT, Nat.reduceAdd, Int.reduceAdd, Int.reduceSub, Int.reduceNeg, ↓reduceIte, Nat.reduceEqDiff, reduceCtorEq]
      exact ih
    · have e : k + posT x (y :: r) = k := by rw [posT, if_neg (by simp [h])]; omega
      rw [e]
      simp (disch := first | omega | (simp only [go_sem, List.length_take, List.length_drop] <;> omega) | assumption | decide | fail) only [go_sem, X_ingotref17_Make, d_a, hc, hx, h, Nat.reduceLeDiff, Nat.reduceLT, Nat.reduceAdd, Int.reduceAdd, Int.reduceSub, Int.reduceNeg, ↓reduceIte, Nat.reduceEqDiff, reduceCtorEq]
theorem ref17_find0 {l : List Tx} {i : Nat} {K : List Kf} :
    go X_ingotref17_Make (.c (.loop b_ingotref17_Make_7) :: .b 2 :: K) ⟨[(0, .d (.sl ((l).map txt))), (4, .d .nilS), (5, .d (.int .i64 ((i : Int)))), (6, .d (.int .i64 (0)))], []⟩ =
      go X_ingotref17_Make K ⟨[(0, .d (.sl ((l).map txt))), (4, .d .nilS), (5, .d (.int .i64 ((i : Int)))), (6, .d (.int .i64 (0))), (33, .d (.bool (false)))], []⟩ := by
  rw [go_loop]
  simp (disch := first | omega | (simp only [go_sem, List.length_take, List.length_drop] <;> omega) | assumption | decide | fail) only [go_sem, X_ingotref17_Make, show decide ((0 : Int) < 0) = false from rfl, Nat.reduceLeDiff, Nat.reduceLT, Nat.reduceAdd, Int.reduceAdd, Int.reduceSub, Int.reduceNeg, ↓reduceIte, Nat.reduceEqDiff, reduceCtorEq]
theorem insP_nil (x : Tx) : insP x [] = [x] := rfl
theorem ref17_words {l : List Tx} (hl : l.length ≤ 1000000) {K : List Kf} : ∀ (r : List Tx) (i : Nat) (ws : List Tx), l.drop i = r → i ≤ l.length → ws.length ≤ i →
    go X_ingotref17_Make (.c (.loop b_ingotref17_Make_13) :: .b 0 :: K) ⟨[(0, .d (.sl ((l).map txt))), (4, ownL (ws.map txt)), (5, .d (.int .i64 ((i : Int))))], []⟩ =
      go X_ingotref17_Make K ⟨[(0, .d (.sl ((l).map txt))), (4, ownL ((r.foldl (fun a x => insP x a) ws).map txt)), (5, .d (.int .i64 ((l.length : Int)))), (14, .d (.bool (false)))], []⟩
  | [], i, ws, hr, hi, hw => by
    have h1 := dropEnd hr
    have : i = l.length := by omega
    subst this
    have d_a : decide ((l.length : Int) < l.length) = false := by simp <;> omega
    rw [go_loop, List.foldl_nil]
    cases ws with
    | nil => simp (disch := first | omega | (simp only [go_sem, List.length_take, List.length_drop] <;> omega) | assumption | decide | fail) only [go_sem, X_ingotref17_Make, d_a, ownL_nil, Nat.reduceLeDiff, Nat.reduceLT, Nat.reduceAdd, Int.reduceAdd, Int.reduceSub, Int.reduceNeg, ↓reduceIte, Nat.reduceEqDiff, reduceCtorEq]
    | cons w ws => simp (disch := first | omega | (simp only [go_sem, List.length_take, List.length_drop] <;> omega) | assumption | decide | fail) only [go_sem, X_ingotref17_Make, d_a, ownL_cons, Nat.reduceLeDiff, Nat.reduceLT, Nat.reduceAdd, Int.reduceAdd, Int.reduceSub, Int.reduceNeg, ↓reduceIte, Nat.reduceEqDiff, reduceCtorEq]
  | x :: r, i, ws, hr, hi, hw => by
    obtain ⟨hlt, hc, hr'⟩ := dropAt hr
    have d_a : decide ((i : Int) < l.length) = true := by simp <;> omega
    have hle := insP_length x ws
    have ih := ref17_words hl (K := K) r (i + 1) (insP x ws) hr' (by omega) (by omega)
    rw [show (((i + 1 : Nat)) : Int) = (i : Int) + 1 by omega] at ih
    rw [go_loop, List.foldl_cons, ← ih]
    cases ws with
    | nil =>
      rw [insP_nil, List.map_nil, ownL_nil, List.map_cons, List.map_nil, ownL_cons]
      simp (disch := first | omega | (simp only [go_sem, List.length_take, List.length_drop] <;> omega) | assumption | decide | fail) only [go_sem, X_ingotref17_Make, d_a, ref17_find0, hc, show decide ((0 : Int) < 0) = false from rfl, Nat.reduceLeDiff, Nat.reduceLT, Nat.reduceAdd, Int.reduceAdd, Int.reduceSub, Int.reduceNeg, ↓reduceIte, Nat.reduceEqDiff, reduceCtorEq]
    | cons w ws =>
      generalize hws : w :: ws = vs
      have hne : vs ≠ [] := by rw [← hws]; simp
      have ho : ∀ us : List Tx, us ≠ [] → ownL (us.map txt) = .own false 1 (us.map txt) := fun us h => by
        cases us with
        | nil => exact absurd rfl h
        | cons _ _ => rfl
      rw [hws] at hle
      have hvl : vs.length ≤ 1000000 := by rw [← hws]; omega
      have hf : ∀ K, _ := fun K => ref17_find (K := K) hc (ws := vs) hvl vs 0 rfl (Nat.zero_le _)
      simp only [Nat.zero_add, nc0] at hf
      rw [ho vs hne]
      have hple := posT_le x vs
      by_cases hA : vs[posT x vs]? = some x
      · rw [show insP x vs = vs from if_pos hA, ho vs hne]
        have hlt2 := (List.getElem?_eq_some_iff.1 hA).1
        have d_b : decide (((posT x vs : Nat) : Int) < vs.length) = true := by simp <;> omega
        simp (disch := first | omega | (simp only [go_sem, List.length_take, List.length_drop] <;> omega) | assumption | decide | fail) only [go_sem, X_ingotref17_Make, d_a, hf, d_b, hc, hA, Nat.reduceLeDiff, Nat.reduceLT, Nat.reduceAdd, Int.reduceAdd, Int.reduceSub, Int.reduceNeg, ↓reduceIte, Nat.reduceEqDiff, reduceCtorEq]
      · rw [ho (insP x vs) (by rw [show insP x vs = _ from if_neg hA]; simp), show insP x vs = _ from if_neg hA]
        have e2 : ∀ y, vs[posT x vs]? = some y → (y == x) = false := fun y hy => by
          simp only [beq_eq_false_iff_ne, ne_eq]
          rintro rfl
          exact hA hy
        have e3 : List.take (vs.length - posT x vs) (List.drop (posT x vs) (vs.map txt)) = (vs.drop (posT x vs)).map txt := by
          rw [List.take_of_length_le (by simp), List.map_drop]
        have e4 : ((vs.take (posT x vs) ++ x :: vs.drop (posT x vs)).map txt) = List.take (posT x vs) (vs.map txt) ++ [txt x] ++ (vs.drop (posT x vs)).map txt := by
          simp [List.map_take, List.map_drop]
        rw [e4]
        have e6 : posT x vs + (vs.length - posT x vs) ≤ vs.length := by omega
        have e7 : posT x vs ≠ 0 → List.take (posT x vs) (vs.map txt) ≠ [] := fun h => by
          intro e
          have := congrArg List.length e
          rw [List.length_take, List.length_map, List.length_nil] at this
          omega
        have e8 : (List.take (posT x vs) (vs.map txt)).length = posT x vs := by rw [List.length_take, List.length_map]; omega
        by_cases hlt2 : posT x vs < vs.length
        · have hg := List.getElem?_eq_getElem hlt2
          have e2' := e2 _ hg
          have d_b : decide (((posT x vs : Nat) : Int) < vs.length) = true := by simp <;> omega
          by_cases hk : posT x vs = 0
          · have e5 : List.take (posT x vs) (vs.map txt) = [] := by rw [hk]; rfl
            simp (disch := first | omega | (simp only [go_sem, List.length_take, List.length_drop] <;> omega) | assumption | decide | fail) only [go_sem, X_ingotref17_Make, d_a, hf, d_b, hc, hg, e2', List.drop_zero, e5, e3, Nat.sub_zero, Nat.reduceLeDiff, Nat.reduceLT, Nat.reduceAdd, Int.reduceAdd, Int.reduceSub, Int.reduceNeg, ↓reduceIte, Nat.reduceEqDiff, reduceCtorEq]
          · simp (disch := first | omega | (simp only [go_sem, List.length_take, List.length_drop] <;> omega) | assumption | decide | fail) only [go_sem, X_ingotref17_Make, d_a, hf, d_b, hc, hg, e2', List.drop_zero, appV_nilv _ _ _ _ (e7 hk) (by rw [e8]; omega), e8, e3, Nat.sub_zero, List.append_assoc, Nat.reduceLeDiff, Nat.reduceLT, Nat.reduceAdd, Int.reduceAdd, Int.reduceSub, Int.reduceNeg, ↓reduceIte, Nat.reduceEqDiff, reduceCtorEq]
        · have hk : posT x vs ≠ 0 := fun h => by
            have := List.length_pos_iff.2 hne
            omega
          have d_b : decide (((posT x vs : Nat) : Int) < vs.length) = false := by simp <;> omega
          have e9 : List.take (posT x vs) (vs.map txt) = vs.map txt := List.take_of_length_le (by rw [List.length_map]; omega)
          simp (disch := first | omega | (simp only [go_sem, List.length_take, List.length_drop] <;> omega) | assumption | decide | fail) only [go_sem, X_ingotref17_Make, d_a, hf, d_b, hc, appV_nilv _ _ _ _ (ys := vs.map txt) (by simpa using hne) (by rw [List.length_map]; omega), e9, e3, List.append_assoc, Nat.reduceLeDiff, Nat.reduceLT, Nat.reduceAdd, Int.reduceAdd, Int.reduceSub, Int.reduceNeg, ↓reduceIte, Nat.reduceEqDiff, reduceCtorEq]
/-- all the places -/
def idxT (l ws : List Tx) : List Int := l.map fun x => (posT x ws : Int)
theorem ref17_nth {l : List Tx} {i : Nat} {x : Tx} (hx : l[i]? = some x) {ws : List Tx} (hw : ws.length ≤ 1000000) (hR : Rise ws) {v : List D} {K : List Kf} : ∀ (r : List Tx) (k : Nat), ws.drop k = r → x ∈ r → Rise r →
    go X_ingotref17_Make (.c (.loop b_ingotref17_Make_20) :: .b 6 :: K) ⟨[(0, .d (.sl ((l).map txt))), (4, .own false 1 (ws.map txt)), (8, ownL v), (9, .d (.int .i64 ((i : Int)))), (10, .d (.int .i64 ((k : Int))))], []⟩ =
      go X_ingotref17_Make K ⟨[(0, .d (.sl ((l).map txt))), (4, .own false 1 (ws.map txt)), (8, ownL v), (9, .d (.int .i64 ((i : Int)))), (10, .d (.int .i64 (((k + posT x r : Nat) : Int)))), (86, .d (.bool (false)))], []⟩
  | [], k, hr, hm, _ => by cases hm
  | y :: r, k, hr, hm, hy => by
    obtain ⟨hlt, hc, hr'⟩ := dropAt hr
    rw [go_loop]
    by_cases e : y = x
    · subst e
      have e2 : k + posT y (y :: r) = k := by rw [posT, if_neg (by simp [bl_irr])]; omega
      rw [e2]
      cases v with
      | nil => simp (disch := first | omega | (simp only [go_sem, List.length_take, List.length_drop] <;> omega) | assumption | decide | fail) only [go_sem, X_ingotref17_Make, hc, hx, ownL_nil, Nat.reduceLeDiff, Nat.reduceLT, Nat.reduceAdd, Int.reduceAdd, Int.reduceSub, Int.reduceNeg, ↓reduceIte, Nat.reduceEqDiff, reduceCtorEq]
      | cons a v => simp (disch := first | omega | (simp only [go_sem, List.length_take, List.length_drop] <;> omega) | assumption | decide | fail) only [go_sem, X_ingotref17_Make, hc, hx, ownL_cons, Nat.reduceLeDiff, Nat.reduceLT, Nat.reduceAdd, Int.reduceAdd, Int.reduceSub, Int.reduceNeg, ↓reduceIte, Nat.reduceEqDiff, reduceCtorEq]
    · have hm' : x ∈ r := by
        rcases List.mem_cons.1 hm with h | h
        · exact absurd h.symm e
        · exact h
      have ih := ref17_nth hx hw hR (v := v) (K := K) r (k + 1) hr' hm' hy.2
      have e2 : (y == x) = false := by simpa using e
      rw [show (((k + 1 : Nat)) : Int) = (k : Int) + 1 by omega, show k + 1 + posT x r = k + posT x (y :: r) by rw [posT, if_pos (hy.1 x hm')]; omega] at ih
      rw [← ih]
      cases v with
      | nil => simp (disch := first | omega | (simp only [go_sem, List.length_take, List.length_drop] <;> omega) | assumption | decide | fail) only [go_sem, X_ingotref17_Make, hc, hx, e2, ownL_nil, Nat.reduceLeDiff, Nat.reduceLT, Nat.reduceAdd, Int.reduceAdd, Int.reduceSub, Int.reduceNeg, ↓reduceIte, Nat.reduceEqDiff, reduceCtorEq]
      | cons a v => simp (disch := first | omega | (simp only [go_sem, List.length_take, List.length_drop] <;> omega) | assumption | decide | fail) only [go_sem, X_ingotref17_Make, hc, hx, e2, ownL_cons, Nat.reduceLeDiff, Nat.reduceLT, Nat.reduceAdd, Int.reduceAdd, Int.reduceSub, Int.reduceNeg, ↓reduceIte, Nat.reduceEqDiff, reduceCtorEq]
theorem ref17_index {l : List Tx} (hl : l.length ≤ 1000000) {ws : List Tx} (hw : ws.length ≤ 1000000) (hR : Rise ws) (hin : ∀ x ∈ l, x ∈ ws) : ∀ (r : List Tx) (i : Nat) (acc : List Int), l.drop i = r → i ≤ l.length → acc.length = i →
    go X_ingotref17_Make [.c (.loop b_ingotref17_Make_23), .b 4, .c (.seq r_ingotref17_Make_24 .ret)] ⟨[(0, .d (.sl ((l).map txt))), (4, .own false 1 (ws.map txt)), (8, ownL (acc.map (D.int .i64))), (9, .d (.int .i64 ((i : Int))))], []⟩ =
      some (.d (.tup [.sl (ws.map txt), .sl ((acc ++ idxT r ws).map (D.int .i64))]), [])
  | [], i, acc, hr, hi, ha => by
    have h1 := dropEnd hr
    have d_a : decide ((i : Int) < l.length) = false := by simp <;> omega
    rw [go_loop]
    cases acc with
    | nil => simp (disch := first | omega | (simp only [go_sem, List.length_take, List.length_drop] <;> omega) | assumption | decide | fail) only [go_sem, X_ingotref17_Make, d_a, ownL_nil, Nat.reduceLeDiff, Nat.reduceLT, Nat.reduceAdd, Int.reduceAdd, Int.reduceSub, Int.reduceNeg, ↓reduceIte, Nat.reduceEqDiff, reduceCtorEq]; rfl
    | cons w acc => simp (disch := first | omega | (simp only [go_sem, List.length_take, List.length_drop] <;> omega) | assumption | decide | fail) only [go_sem, X_ingotref17_Make, d_a, ownL_cons, Nat.reduceLeDiff, Nat.reduceLT, Nat.reduceAdd, Int.reduceAdd, Int.reduceSub, Int.reduceNeg, ↓reduceIte, Nat.reduceEqDiff, reduceCtorEq]; simp [idxT]
  | x :: r, i, acc, hr, hi, ha => by
    obtain ⟨hlt, hc, hr'⟩ := dropAt hr
    have d_a : decide ((i : Int) < l.length) = true := by simp <;> omega
    have ih := ref17_index hl hw hR hin r (i + 1) (acc ++ [(posT x ws : Int)]) hr' (by omega) (by simp; omega)
    have hf : ∀ K v, _ := fun K v => ref17_nth hc hw hR (v := v) (K := K) ws 0 rfl (hin x (List.mem_of_getElem? hc)) hR
    simp only [Nat.zero_add, nc0] at hf
    have e1 : acc ++ [(posT x ws : Int)] ++ idxT r ws = acc ++ idxT (x :: r) ws := by simp [idxT]
    rw [e1, List.map_append, List.map_cons, List.map_nil, ownL_snoc, show (((i + 1 : Nat)) : Int) = (i : Int) + 1 by omega] at ih
    rw [go_loop, ← ih]
    cases acc with
    | nil =>
      have hf' := fun K => hf K []
      simp only [ownL_nil] at hf'
      simp (disch := first | omega | (simp only [go_sem, List.length_take, List.length_drop] <;> omega) | assumption | decide | fail) only [go_sem, X_ingotref17_Make, d_a, hf', ownL_nil, Nat.reduceLeDiff, Nat.reduceLT, Nat.reduceAdd, Int.reduceAdd, Int.reduceSub, Int.reduceNeg, ↓reduceIte, Nat.reduceEqDiff, reduceCtorEq]
    | cons w acc =>
      rw [List.length_cons] at ha
      have hf' := fun K => hf K ((w :: acc).map (D.int .i64))
      simp only [List.map_cons, ownL_cons] at hf'
      simp (disch := first | omega | (simp only [go_sem, List.length_take, List.length_drop] <;> omega) | assumption | decide | fail) only [go_sem, X_ingotref17_Make, d_a, hf', ownL_cons, Nat.reduceLeDiff, Nat.reduceLT, Nat.reduceAdd, Int.reduceAdd, Int.reduceSub, Int.reduceNeg, ↓reduceIte, Nat.reduceEqDiff, reduceCtorEq]
theorem ref17_Make_ans {l : List Tx} (hl : l.length ≤ 1000000) : evL cfg n_ingotref17_Make 0 [.d (.sl ((l).map txt))] [] = some (.d (.tup [.sl ((riseT l).map txt), .sl ((idxT l (riseT l)).map (D.int .i64))]), []) := by
  rw [o_ingotref17_Make]
  have hw : ∀ K, _ := fun K => ref17_words hl (K := K) l 0 [] rfl (Nat.zero_le _) (Nat.zero_le _)
  simp only [nc0, List.map_nil, ownL_nil] at hw
  have hwl := riseT_length l
  cases h : riseT l with
  | nil =>
    have : l = [] := by
      cases l with
      | nil => rfl
      | cons x l => have := (mem_riseT (l := x :: l) (z := x)).2 List.mem_cons_self; rw [h] at this; cases this
    subst this
    exact (o_ingotref17_Make _).symm.trans (evL_of_evFn (n := 3) (by kernel_rfl))
  | cons w ws =>
    have hi := ref17_index hl (ws := riseT l) (by omega) (rise_riseT l) (fun x hx => mem_riseT.2 hx) l 0 [] rfl (Nat.zero_le _) rfl
    unfold riseT at h hi
    rw [h] at hw hi
    simp only [nc0, List.map_nil, ownL_nil, List.map_cons, ownL_cons, List.nil_append] at hw hi
    simp (disch := first | omega | (simp only [go_sem, List.length_take, List.length_drop] <;> omega) | assumption | decide | fail) only [go_sem, X_ingotref17_Make, c_ingotref17_Make, hw, Nat.reduceLeDiff, Nat.reduceLT, Nat.reduceAdd, Int.reduceAdd, Int.reduceSub, Int.reduceNeg, ↓reduceIte, Nat.reduceEqDiff, reduceCtorEq]
    exact hi
end Go.Proofs.Ytghhloejmikdfaa
