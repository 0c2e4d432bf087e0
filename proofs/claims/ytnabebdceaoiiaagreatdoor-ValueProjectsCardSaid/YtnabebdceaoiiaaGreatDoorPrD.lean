/- Values without what is not kept: by the document. -/
import Derived.Test.YtnabebdceaoiiaaGreatDoorPrC
namespace Go.Proofs.YtnabebdceaoiiaaGreatDoor
open Go Go.Ev
set_option linter.unusedVariables false
set_option linter.unusedSimpArgs false
set_option maxHeartbeats 4000000

theorem ef (L : List Nde) (hL : L.length ≤ 1000) (keep : List Bool) (hk : keep.length = L.length) (t : Ty) (v : Va) (ht : subAt L 0 t) (hv : fj v.size v) :
    evL cfg n_a8 0 [.d (.sl (nodN L)), .d (.sl (keep.map D.bool)), .d v.d] [] = some (.d (projV false keep 0 t v).d, []) := by
  have h := ee L hL keep hk t.size t 0 v (Nat.le_refl _) ht hv
  have h0 := kj ht
  have e1 : ((L.length : Int) == 0) = false := by simp; intro e; simp [e] at h0
  have e2 : ((keep.length : Int) != (L.length : Int)) = false := by rw [hk]; simp
  have e3 : (nodN L).length = L.length := List.length_map _
  rw [nc0] at h
  rw [o_a8]
  generalize nodN L = N at *
  generalize projV false keep 0 t v = q at *
  simp (disch := first | omega | (simp only [go_sem, List.length_take, List.length_drop] <;> omega) | assumption | decide | fail) only [go_sem, X_a8, c_a8, h, e1, e2, e3, List.length_map, Nat.reduceLeDiff, Nat.reduceLT, Nat.reduceAdd, Int.reduceAdd, Int.reduceSub, Int.reduceNeg, ↓reduceIte, Nat.reduceEqDiff, reduceCtorEq, Int.reduceBEq, Int.reduceBNe, Nat.reduceBEq]
abbrev dpE (N : List D) (keep : List Bool) (p i : Nat) : List (Nat × V) := [(0, .d (.sl N)), (1, .d (.sl (keep.map D.bool))), (2, .d (.int .i64 ((p : Int)))), (7, .ref 0 7 0), (8, .ref 0 8 0), (9, .ref 0 9 0), (10, .d (.int .i64 ((i : Int))))]
theorem len9 (a b c d e f g h i : D) : [a, b, c, d, e, f, g, h, i].length = 9 := rfl
theorem aaw (N : List D) (keep : List Bool) (hkl : keep.length ≤ 10000) (x : Ty) (p : Nat) (v : Va) (hvk : v.kids.length ≤ 1000000) (hin : ∀ q ∈ kidAt (p + 1) x.kids, q < keep.length) (ks : List Nat) (hks : kidAt (p + 1) x.kids = ks) (hkn : ks.length ≤ 10000) {c0 c1 c2 c3 c4 c5 c7 c8 : D}
    (hn : N[p]? = some (.agg [c0, c1, c2, c3, c4, c5, .sl (ks.map intN), c7, c8]))
    (IH : ∀ (j : Nat) y u pos, x.kids[j]? = some y → v.kids[j]? = some u → (kidAt (p + 1) x.kids)[j]? = some pos → evL cfg n_ai 0 [.d (.sl N), .d (.sl (keep.map D.bool)), .d (.int .i64 ((pos : Int))), .d u.d] [] = some (.d (projV true keep pos y u).d, [])) (K : List Kf) :
    ∀ (r : List Ty) (vs : List Va) (i q : Nat) (acc : List Va), x.kids.drop i = r → v.kids.drop i = vs → (kidAt (p + 1) x.kids).drop i = kidAt q r → i ≤ x.kids.length → acc.length ≤ i →
    ∃ i', go X_ai (.c (.loop qd) :: .b 0 :: K) ⟨dpE N keep p i, boxV 7 v ++ box0 8 ++ boxP 9 0 0 acc⟩ =
      go X_ai K ⟨dpE N keep p i' ++ [(39, .d (.bool (false)))], boxV 7 v ++ box0 8 ++ boxP 9 0 0 (acc ++ bg true keep q r vs)⟩
  | [], vs, i, q, acc, hr, hvs, hkr, hi, ha => by
    have := bm hr
    have : i = x.kids.length := by omega
    subst this
    have e := bj x.kids (p + 1)
    rw [hks] at e
    refine ⟨x.kids.length, ?_⟩
    rw [projVs_nil, List.append_nil, go_loop]
    have d_a : decide ((x.kids.length : Int) < ks.length) = false := by simp <;> omega
    simp only [dpE, boxP, box0, boxV, List.cons_append, List.nil_append]
    simp (disch := first | omega | (simp only [go_sem, List.length_take, List.length_drop] <;> omega) | assumption | decide | fail) only [go_sem, X_ai, d_a, ak, hn, len9, List.length_map, Nat.reduceLeDiff, Nat.reduceLT, Nat.reduceAdd, Int.reduceAdd, Int.reduceSub, Int.reduceNeg, ↓reduceIte, Nat.reduceEqDiff, reduceCtorEq, Int.reduceBEq, Int.reduceBNe, Nat.reduceBEq]
  | y :: r, [], i, q, acc, hr, hvs, hkr, hi, ha => by
    obtain ⟨hlt, hc, hr'⟩ := bp hr
    have e := bj x.kids (p + 1)
    rw [hks] at e
    have hv0 := bm hvs
    refine ⟨i, ?_⟩
    rw [projVs_nil2, List.append_nil, go_loop]
    have d_a : decide ((i : Int) < ks.length) = true := by simp <;> omega
    have d_c : decide ((i : Int) < v.kids.length) = false := by simp <;> omega
    simp only [dpE, boxP, box0, boxV, List.cons_append, List.nil_append]
    simp (disch := first | omega | (simp only [go_sem, List.length_take, List.length_drop] <;> omega) | assumption | decide | fail) only [go_sem, X_ai, d_a, d_c, ak, hn, len9, List.length_map, Nat.reduceLeDiff, Nat.reduceLT, Nat.reduceAdd, Int.reduceAdd, Int.reduceSub, Int.reduceNeg, ↓reduceIte, Nat.reduceEqDiff, reduceCtorEq, Int.reduceBEq, Int.reduceBNe, Nat.reduceBEq]
  | y :: r, u :: vs, i, q, acc, hr, hvs, hkr, hi, ha => by
    obtain ⟨hlt, hc, hr'⟩ := bp hr
    obtain ⟨hltv, hcv, hvs'⟩ := bp hvs
    rw [kidAt_cons] at hkr
    obtain ⟨hlt2, hc2, hkr'⟩ := bp hkr
    have hq := hin q (List.mem_of_getElem? hc2)
    have e := bj x.kids (p + 1)
    rw [hks] at e
    obtain ⟨b, hb⟩ : ∃ b, keep[q]? = some b := ⟨_, List.getElem?_eq_getElem hq⟩
    have hbd : keep.getD q false = b := by rw [List.getD_eq_getElem?_getD, hb]; rfl
    have hf := IH i y u q hc hcv hc2
    have hc2' : ks[i]? = some q := by rw [← hks]; exact hc2
    have d_a : decide ((i : Int) < ks.length) = true := by simp <;> omega
    have d_c : decide ((i : Int) < v.kids.length) = true := by simp <;> omega
    have d_g : decide ((q : Int) < keep.length) = true := by simp <;> omega
    rw [projVs_cons, hbd]
    cases b with
    | false =>
      obtain ⟨i', ih⟩ := aaw N keep hkl x p v hvk hin ks hks hkn hn IH K r vs (i + 1) (q + y.size) acc hr' hvs' hkr' hlt (by omega)
      refine ⟨i', ?_⟩
      rw [if_neg (by decide)]
      refine Eq.trans ?_ ih
      clear ih IH
      simp only [dpE, boxP, box0, boxV, List.cons_append, List.nil_append]
      conv => lhs; rw [go_loop]
      simp (disch := first | omega | (simp only [go_sem, List.length_take, List.length_drop] <;> omega) | assumption | decide | fail) only [go_sem, X_ai, d_a, d_c, d_g, ak, hn, hc2', hb, len9, List.length_map, List.getElem?_map, Option.map_some, intN, Int.natCast_add, Nat.reduceLeDiff, Nat.reduceLT, Nat.reduceAdd, Int.reduceAdd, Int.reduceSub, Int.reduceNeg, ↓reduceIte, Nat.reduceEqDiff, reduceCtorEq, Int.reduceBEq, Int.reduceBNe, Nat.reduceBEq]
    | true =>
      obtain ⟨i', ih⟩ := aaw N keep hkl x p v hvk hin ks hks hkn hn IH K r vs (i + 1) (q + y.size) (acc ++ [projV true keep q y u]) hr' hvs' hkr' hlt (by simp; omega)
      refine ⟨i', ?_⟩
      rw [if_pos rfl]
      rw [List.append_assoc acc, List.singleton_append] at ih
      refine Eq.trans ?_ ih
      clear ih IH
      have hm : acc.length ≤ 1000000 := by omega
      simp only [boxP, kt]
      simp only [dpE, box0, boxV, List.cons_append, List.nil_append]
      conv => lhs; rw [go_loop]
      cases acc with
      | nil => simp (disch := first | omega | (simp only [go_sem, List.length_take, List.length_drop] <;> omega) | assumption | decide | fail) only [go_sem, X_ai, d_a, d_c, d_g, ak, hn, hc2', hcv, hb, hf, len9, List.length_map, List.getElem?_map, Option.map_some, intN, Int.natCast_add, List.map_nil, bb, List.nil_append, Nat.reduceLeDiff, Nat.reduceLT, Nat.reduceAdd, Int.reduceAdd, Int.reduceSub, Int.reduceNeg, ↓reduceIte, Nat.reduceEqDiff, reduceCtorEq, Int.reduceBEq, Int.reduceBNe, Nat.reduceBEq]
      | cons z acc =>
        simp only [List.length_cons] at hm
        simp (disch := first | omega | (simp only [go_sem, List.length_take, List.length_drop] <;> omega) | assumption | decide | fail) only [go_sem, X_ai, d_a, d_c, d_g, ak, hn, hc2', hcv, hb, hf, len9, List.length_map, List.getElem?_map, Option.map_some, intN, Int.natCast_add, List.map_cons, bq, List.cons_append, List.length_cons, Nat.reduceLeDiff, Nat.reduceLT, Nat.reduceAdd, Int.reduceAdd, Int.reduceSub, Int.reduceNeg, ↓reduceIte, Nat.reduceEqDiff, reduceCtorEq, Int.reduceBEq, Int.reduceBNe, Nat.reduceBEq]
end Go.Proofs.YtnabebdceaoiiaaGreatDoor
