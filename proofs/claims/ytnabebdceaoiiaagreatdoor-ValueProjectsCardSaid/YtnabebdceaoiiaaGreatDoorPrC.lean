/- Values without what is not kept: by the program. -/
import Derived.Test.YtnabebdceaoiiaaGreatDoorPrB
namespace Go.Proofs.YtnabebdceaoiiaaGreatDoor
open Go Go.Ev
set_option linter.unusedVariables false
set_option linter.unusedSimpArgs false
set_option maxHeartbeats 4000000

abbrev nodN (L : List Nde) : List D := L.map fun n => nodT n.1 n.2.1 n.2.2.1 n.2.2.2
theorem nodN_at {L : List Nde} {p : Nat} {n : Nde} (h : L[p]? = some n) : (nodN L)[p]? = some (nodT n.1 n.2.1 n.2.2.1 n.2.2.2) := by rw [List.getElem?_map, h]; rfl
theorem ahu {L : List Nde} {p : Nat} {x : Ty} (h : subAt L p x) : ∀ q ∈ kidAt (p + 1) x.kids, q < L.length := by
  intro q hq
  obtain ⟨j, hj⟩ := List.getElem?_of_mem hq
  have hl := (List.getElem?_eq_some_iff.1 hj).1
  rw [bj] at hl
  exact kj (k9 h (List.getElem?_eq_getElem hl) hj).1
theorem proj_d (i n : Int) (l : List Va) : (Va.mk false i n [] l).d = .agg [.bool false, .int .i64 i, .int .i64 n, .sl [], .sl (l.map Va.d)] := by rw [Va.d_eq]; rfl
theorem ee (L : List Nde) (hL : L.length ≤ 1000) (keep : List Bool) (hk : keep.length = L.length) : ∀ (m : Nat) (x : Ty) (p : Nat) (v : Va), x.size ≤ m → subAt L p x → fj v.size v →
    evL cfg n_aj 0 [.d (.sl (nodN L)), .d (.sl (keep.map D.bool)), .d v.d, .d (.int .i64 ((p : Int)))] [] = some (.d (projV false keep p x v).d, [])
  | 0, x, p, v, h, _, _ => by have := x.size_pos; omega
  | m + 1, x, p, v, h, hs, hv => by
    have hc := fe v.size v (Nat.le_refl _) hv
    obtain ⟨a, b, hat⟩ := pd hs
    have hn := nodN_at hat
    have hin := ahu hs
    have hpl := kj hs
    have hvs : v.kids.length ≤ 1000000 ∧ ∀ k ∈ v.kids, fj k.size k := by
      have hsz := v.size_pos
      obtain ⟨s, hs⟩ : ∃ s, v.size = s + 1 := ⟨v.size - 1, by omega⟩
      rw [hs] at hv
      refine ⟨hv.2.1, fun k hk => ?_⟩
      have hlt := Va.size_kid hk
      have : ∀ (a b : Nat) (u : Va), b ≤ a → fj a u → fj b u := by
        intro a
        induction a with
        | zero => intro b u h _; have : b = 0 := by omega
                  subst this; trivial
        | succ a ih =>
          intro b u h hu
          cases b with
          | zero => trivial
          | succ b => exact ⟨hu.1, hu.2.1, fun k hk => ih b k (by omega) (hu.2.2 k hk)⟩
      exact this s k.size k (by omega) (hv.2.2 k hk)
    have hkl := gk x.kids
    have hxs : x.size ≤ L.length := by
      obtain ⟨a, b, rest, h⟩ := hs
      have := congrArg List.length h
      rw [List.length_append, bt, List.length_drop] at this
      omega
    have hsz := x.size_eq
    have IH : ∀ (j : Nat) y u pos, x.kids[j]? = some y → v.kids[j]? = some u → (kidAt (p + 1) x.kids)[j]? = some pos → evL cfg n_aj 0 [.d (.sl (nodN L)), .d (.sl (keep.map D.bool)), .d u.d, .d (.int .i64 ((pos : Int)))] [] = some (.d (projV false keep pos y u).d, []) := fun j y u pos h1 h2 h3 =>
      ee L hL keep hk m y pos u (by have := Ty.size_kid (List.mem_of_getElem? h1); omega) (k9 hs h1 h3).1 (hvs.2 u (List.mem_of_getElem? h2))
    have hNl : (nodN L).length ≤ 10000 := by rw [List.length_map]; omega
    unfold nodT at hn
    rw [o_aj, projV_eq]
    generalize nodN L = N at *
    cases hnl : v.null with
    | true =>
      rw [Bool.true_or, if_pos rfl]
      simp (disch := first | omega | (simp only [go_sem, List.length_take, List.length_drop] <;> omega) | assumption | decide | fail) only [go_sem, X_aj, c_aj, hc, hnl, boxT, Nat.reduceLeDiff, Nat.reduceLT, Nat.reduceAdd, Int.reduceAdd, Int.reduceSub, Int.reduceNeg, ↓reduceIte, Nat.reduceEqDiff, reduceCtorEq, Int.reduceBEq, Int.reduceBNe, Nat.reduceBEq]
    | false =>
      rw [Bool.false_or]
      rcases Bool.eq_false_or_eq_true (x.kind != 12) with hx | hx
      · rw [hx, if_pos rfl]
        simp (disch := first | omega | (simp only [go_sem, List.length_take, List.length_drop] <;> omega) | assumption | decide | fail) only [go_sem, X_aj, c_aj, hc, hnl, hn, hx, len8, Nat.reduceLeDiff, Nat.reduceLT, Nat.reduceAdd, Int.reduceAdd, Int.reduceSub, Int.reduceNeg, ↓reduceIte, Nat.reduceEqDiff, reduceCtorEq, Int.reduceBEq, Int.reduceBNe, Nat.reduceBEq]
      · rw [hx, if_neg (by decide)]
        have l := pj_loop N keep hNl (by omega) x p v hnl (by omega) hvs.1 (by rw [hk]; exact hin) IH [.c (.seq po (.seq pn .ret))] x.kids v.kids 0 (p + 1) [] rfl rfl rfl (Nat.zero_le _) (Nat.zero_le _)
        clear IH
        have e := bj x.kids (p + 1)
        rw [List.nil_append] at l
        have hq : (bg false keep (p + 1) x.kids v.kids).length ≤ 1000000 := by
          have : ∀ (ks : List Ty) (vs : List Va) (q : Nat), (bg false keep q ks vs).length ≤ vs.length := by
            intro ks
            induction ks with
            | nil => intro vs q; rw [projVs_nil]; exact Nat.zero_le _
            | cons k r ih =>
              intro vs q
              cases vs with
              | nil => rw [projVs_nil2]; exact Nat.zero_le _
              | cons u vs =>
                have := ih vs (q + k.size)
                rw [projVs_cons]
                split
                · simp only [List.length_cons]; omega
                · simp only [List.length_cons]; omega
          exact Nat.le_trans (this _ _ _) hvs.1
        rw [proj_d]
        simp only [Bool.false_eq_true, if_false]
        generalize bg false keep (p + 1) x.kids v.kids = acc at *
        generalize kidAt (p + 1) x.kids = ks at *
        have fin : go X_aj [.c (.loop qb), .b 0, .c (.seq po (.seq pn .ret))] ⟨pjE N keep ks 0, boxV 6 v ++ box0 8 ++ boxP 9 v.i v.n []⟩ = some (.d (.agg [.bool false, .int .i64 v.i, .int .i64 v.n, .sl [], .sl (acc.map Va.d)]), []) := by
          refine l.trans ?_
          clear l
          simp only [pjE, boxP, box0, boxV, List.cons_append, List.nil_append]
          cases acc with
          | nil => simp (disch := first | omega | (simp only [go_sem, List.length_take, List.length_drop] <;> omega) | assumption | decide | fail) only [go_sem, X_aj, List.map_nil, bb, Nat.reduceLeDiff, Nat.reduceLT, Nat.reduceAdd, Int.reduceAdd, Int.reduceSub, Int.reduceNeg, ↓reduceIte, Nat.reduceEqDiff, reduceCtorEq, Int.reduceBEq, Int.reduceBNe, Nat.reduceBEq]
          | cons y r => simp (disch := first | omega | (simp only [go_sem, List.length_take, List.length_drop] <;> omega) | assumption | decide | fail) only [go_sem, X_aj, List.map_cons, bq, Nat.reduceLeDiff, Nat.reduceLT, Nat.reduceAdd, Int.reduceAdd, Int.reduceSub, Int.reduceNeg, ↓reduceIte, Nat.reduceEqDiff, reduceCtorEq, Int.reduceBEq, Int.reduceBNe, Nat.reduceBEq]
        clear l
        simp only [pjE, boxP, box0, boxV, List.cons_append, List.nil_append, List.map_nil, bb, hnl, nc0] at fin
        simp (disch := first | omega | (simp only [go_sem, List.length_take, List.length_drop] <;> omega) | assumption | decide | fail) only [go_sem, X_aj, c_aj, hc, hnl, hn, hx, len8, List.length_map, Nat.reduceLeDiff, Nat.reduceLT, Nat.reduceAdd, Int.reduceAdd, Int.reduceSub, Int.reduceNeg, ↓reduceIte, Nat.reduceEqDiff, reduceCtorEq, Int.reduceBEq, Int.reduceBNe, Nat.reduceBEq]
        exact fin
end Go.Proofs.YtnabebdceaoiiaaGreatDoor
