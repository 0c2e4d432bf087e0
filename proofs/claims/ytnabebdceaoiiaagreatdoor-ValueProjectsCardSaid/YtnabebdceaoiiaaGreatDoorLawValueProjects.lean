/- The law ValueProjects: a value without what is not kept, by the program and by the document. No condition. -/
import Derived.Test.YtnabebdceaoiiaaGreatDoorPrF
import Derived.Test.YtnabebdceaoiiaaGreatDoorRdt
namespace Go.Proofs.YtnabebdceaoiiaaGreatDoor
open Go Go.Ev
set_option linter.unusedVariables false
set_option linter.unusedSimpArgs false
set_option maxHeartbeats 4000000

def upto (n i : Nat) : List D := List.replicate i (.bool true) ++ List.replicate (n - i) (.bool false)
theorem upto_len {n i : Nat} (h : i ≤ n) : (upto n i).length = n := by simp [upto]; omega
theorem upto_set {n i : Nat} (h : i < n) : (upto n i).set i (.bool true) = upto n (i + 1) := by
  unfold upto
  rw [List.set_append, if_neg (by simp), List.length_replicate, Nat.sub_self, show n - i = (n - (i + 1)) + 1 by omega, List.replicate_succ, List.set_cons_zero, List.replicate_succ', List.append_assoc, List.singleton_append]
theorem upto_at {n i : Nat} (h : i < n) : (upto n i)[i]? = some (.bool false) := by
  unfold upto
  rw [List.getElem?_append_right (by simp), List.length_replicate, Nat.sub_self, show n - i = (n - (i + 1)) + 1 by omega]; rfl
abbrev alE (S : List D) (k : D) (n i : Nat) : List (Nat × V) := [(3, .ref 0 3 0), (4, .ref 0 4 0), (7, .d (.sl S)), (8, .d k), (10, .ref 0 10 0), (11, .own false 1 (upto n i)), (12, .d (.int .i64 ((i : Int))))]
theorem ail (S : List D) (k : D) (hk : k.isCell = true) (n : Nat) (hn : n ≤ 1000) (hS : S.length = n) (M : List (Cel × V)) (hM : settleM 0 M = M) (K : List Kf) : ∀ (m i : Nat), i + m = n →
    go X_ac (.c (.loop aa4) :: .b 0 :: K) ⟨alE S k n i, M⟩ = go X_ac K ⟨alE S k n n ++ [(60, .d (.bool (false)))], M⟩
  | 0, i, h => by
    have : i = n := by omega
    subst this
    have d_a : decide ((i : Int) < i) = false := by simp <;> omega
    rw [go_loop]
    simp only [alE, List.cons_append, List.nil_append]
    simp (disch := first | omega | (simp only [go_sem, List.length_take, List.length_drop] <;> omega) | assumption | decide | fail) only [go_sem, X_ac, d_a, hS, hM, Nat.reduceLeDiff, Nat.reduceLT, Nat.reduceAdd, Int.reduceAdd, Int.reduceSub, Int.reduceNeg, ↓reduceIte, Nat.reduceEqDiff, reduceCtorEq, Int.reduceBEq, Int.reduceBNe, Nat.reduceBEq]
  | m + 1, i, h => by
    have hlt : i < n := by omega
    have d_a : decide ((i : Int) < n) = true := by simp <;> omega
    have ih := ail S k hk n hn hS M hM K m (i + 1) (by omega)
    refine Eq.trans ?_ ih
    have hset := upto_set hlt
    have hlen := upto_len (Nat.le_of_lt hlt)
    have hat := upto_at hlt
    have hsa : (D.bool false).setAt 0 [D.bool true] = some (.bool true) := rfl
    rw [go_loop]
    simp only [alE, ← hset]
    generalize upto n i = U at *
    simp (disch := first | omega | (simp only [go_sem, List.length_take, List.length_drop] <;> omega) | assumption | decide | fail) only [go_sem, X_ac, d_a, hS, hM, hlen, hat, hsa, Int.natCast_add, Nat.reduceLeDiff, Nat.reduceLT, Nat.reduceAdd, Int.reduceAdd, Int.reduceSub, Int.reduceNeg, ↓reduceIte, Nat.reduceEqDiff, reduceCtorEq, Int.reduceBEq, Int.reduceBNe, Nat.reduceBEq]
theorem kg (t : Ty) (v : Va) (cols : List Int) (ht : tyIn t) (hv : okV v) (_ : cols.length ≤ maxLen) (_ : ∀ n ∈ cols, (Lit.int .i64 n).wf = true) : evL cfg n_ac 0 [.d t.d, .d v.d, .d (.sl (cols.map (D.int .i64)))] [] = some (.d (.bool (true)), []) := by
  have hr := l5 t (ht _)
  have f1 := law14_Few_ans v
  rw [o_ac]
  cases hR : rightT t with
  | false => simp (disch := first | omega | (simp only [go_sem, List.length_take, List.length_drop] <;> omega) | assumption | decide | fail) only [go_sem, X_ac, c_ac, ev, hr, hR, Nat.reduceLeDiff, Nat.reduceLT, Nat.reduceAdd, Int.reduceAdd, Int.reduceSub, Int.reduceNeg, ↓reduceIte, Nat.reduceEqDiff, reduceCtorEq, Int.reduceBEq, Int.reduceBNe, Nat.reduceBEq]
  | true =>
  have hR' := hR
  unfold rightT at hR'
  simp only [Bool.and_eq_true, beq_iff_eq] at hR'
  obtain ⟨hfew, h0⟩ := hR'
  obtain ⟨hk, hs⟩ := few_all hfew
  have hz := aaz h0
  have k1 := ref14_Check_ans _ v t (Nat.le_refl _) hv (aiy hR _)
  cases hF : fewVB v with
  | false => simp (disch := first | omega | (simp only [go_sem, List.length_take, List.length_drop] <;> omega) | assumption | decide | fail) only [go_sem, X_ac, c_ac, ev, hr, hR, f1, hF, Nat.reduceLeDiff, Nat.reduceLT, Nat.reduceAdd, Int.reduceAdd, Int.reduceSub, Int.reduceNeg, ↓reduceIte, Nat.reduceEqDiff, reduceCtorEq, Int.reduceBEq, Int.reduceBNe, Nat.reduceBEq]
  | true =>
  by_cases hc : cols.length > 20
  · have d_c : decide ((cols.length : Int) > 20) = true := by simp <;> omega
    simp (disch := first | omega | (simp only [go_sem, List.length_take, List.length_drop] <;> omega) | assumption | decide | fail) only [go_sem, X_ac, c_ac, ev, hr, hR, f1, hF, d_c, List.length_map, Nat.reduceLeDiff, Nat.reduceLT, Nat.reduceAdd, Int.reduceAdd, Int.reduceSub, Int.reduceNeg, ↓reduceIte, Nat.reduceEqDiff, reduceCtorEq, Int.reduceBEq, Int.reduceBNe, Nat.reduceBEq]
  have d_c : decide ((cols.length : Int) > 20) = false := by simp <;> omega
  rcases Bool.eq_false_or_eq_true (rchkV t v != 0) with hx | hx
  · simp (disch := first | omega | (simp only [go_sem, List.length_take, List.length_drop] <;> omega) | assumption | decide | fail) only [go_sem, X_ac, c_ac, ev, hr, hR, f1, hF, d_c, List.length_map, k1, hx, Nat.reduceLeDiff, Nat.reduceLT, Nat.reduceAdd, Int.reduceAdd, Int.reduceSub, Int.reduceNeg, ↓reduceIte, Nat.reduceEqDiff, reduceCtorEq, Int.reduceBEq, Int.reduceBNe, Nat.reduceBEq]
  have hx0 : rchkV t v = 0 := by simpa using hx
  have g1 := kh t hs h0
  have g2 := apb t hz cols (by omega)
  have g3 := ke t hk h0
  have hLl : (flatR 0 (-1) 1 t).length = t.size := bt _ _ _ _
  rw [w7] at g3
  have hsub := air t (-1) 1
  have hw : fewV 1 v ≤ 400 := by simpa [fewVB] using hF
  have hsm : ∀ n, fj n v := fun n => w8 n v 1 (by omega)
  unfold aia at g2
  rw [List.length_map] at g2
  generalize hL : flatR 0 (-1) 1 t = L at *
  cases hb : badC L.length cols with
  | true =>
    rw [hb, if_pos rfl] at g2
    generalize L.map sigD = S at *
    simp (disch := first | omega | (simp only [go_sem, List.length_take, List.length_drop] <;> omega) | assumption | decide | fail) only [go_sem, X_ac, c_ac, ev, hr, hR, f1, hF, d_c, List.length_map, k1, hx, g1, g2, Nat.reduceLeDiff, Nat.reduceLT, Nat.reduceAdd, Int.reduceAdd, Int.reduceSub, Int.reduceNeg, ↓reduceIte, Nat.reduceEqDiff, reduceCtorEq, Int.reduceBEq, Int.reduceBNe, Nat.reduceBEq]
  | false =>
  rw [hb, if_neg (by decide)] at g2
  have hkeep := oy (L.map cnR) cols (List.replicate L.length false)
  rw [List.length_replicate] at hkeep
  generalize dt (L.map cnR) (List.replicate L.length false) cols = keep at *
  rcases Bool.eq_false_or_eq_true ((cols.length : Int) == 0) with hz0 | hz0
  · generalize L.map sigD = S at *
    simp (disch := first | omega | (simp only [go_sem, List.length_take, List.length_drop] <;> omega) | assumption | decide | fail) only [go_sem, X_ac, c_ac, ev, hr, hR, f1, hF, d_c, List.length_map, k1, hx, g1, g2, hz0, Nat.reduceLeDiff, Nat.reduceLT, Nat.reduceAdd, Int.reduceAdd, Int.reduceSub, Int.reduceNeg, ↓reduceIte, Nat.reduceEqDiff, reduceCtorEq, Int.reduceBEq, Int.reduceBNe, Nat.reduceBEq]
  have p1 := ef L (by omega) keep hkeep t v hsub (hsm _)
  have p2 := ej L (by omega) keep hkeep t.size t 0 v (Nat.le_refl _) hsub hsm
  rw [← ahm keep t.size t 0 v (Nat.le_refl _) hx0, nc0] at p2
  have hP := aho false keep t.size t 0 v (Nat.le_refl _) hv
  have q1 := ref14_Same_ans (projV false keep 0 t v) hP
  rw [jo _ _ (Nat.le_refl _)] at q1
  have p3 := ef L (by omega) (List.replicate L.length true) (List.length_replicate) t v hsub (hsm _)
  rw [ahn _ L.length (fun q hq => by simp [List.getD_eq_getElem?_getD, hq]) t.size t 0 v (Nat.le_refl _) (by omega) hx0] at p3
  have q2 := ref14_Same_ans v hv
  rw [jo _ _ (Nat.le_refl _)] at q2
  generalize projV false keep 0 t v = P at *
  have hSl : (L.map sigD).length = L.length := List.length_map _
  simp only [nodN] at p1 p3
  generalize L.map sigD = S at *
  generalize (L.map fun n => nodT n.1 n.2.1 n.2.2.1 n.2.2.2) = N at *
  simp (disch := first | omega | (simp only [go_sem, List.length_take, List.length_drop] <;> omega) | assumption | decide | fail) only [go_sem, X_ac, c_ac, ev, hr, hR, f1, hF, d_c, List.length_map, k1, hx, g1, g2, g3, p1, hSl, hz0, Nat.reduceLeDiff, Nat.reduceLT, Nat.reduceAdd, Int.reduceAdd, Int.reduceSub, Int.reduceNeg, ↓reduceIte, Nat.reduceEqDiff, reduceCtorEq, Int.reduceBEq, Int.reduceBNe, Nat.reduceBEq]
  have l := fun M hM => ail S (.sl (keep.map D.bool)) rfl L.length (by omega) hSl M hM [.c (((ICode.demote [11]).seq yz).seq .ret)] L.length 0 (by omega)
  have hu0 : List.replicate L.length (D.bool false) = upto L.length 0 := by simp [upto]
  rw [hu0]
  simp only [alE, List.cons_append, List.nil_append, nc0] at l
  refine (l _ rfl).trans ?_
  have hun : upto L.length L.length = (List.replicate L.length true).map D.bool := by simp [upto]
  rw [hun]
  simp (disch := first | omega | (simp only [go_sem, List.length_take, List.length_drop] <;> omega) | assumption | decide | fail) only [go_sem, X_ac, g3, p2, p3, q1, q2, Nat.reduceLeDiff, Nat.reduceLT, Nat.reduceAdd, Int.reduceAdd, Int.reduceSub, Int.reduceNeg, ↓reduceIte, Nat.reduceEqDiff, reduceCtorEq, Int.reduceBEq, Int.reduceBNe, Nat.reduceBEq]
end Go.Proofs.YtnabebdceaoiiaaGreatDoor
