/- Values without what is not kept: by the document, the whole; what is kept. -/
import Derived.Test.YtnabebdceaoiiaaGreatDoorPrE
namespace Go.Proofs.YtnabebdceaoiiaaGreatDoor
open Go Go.Ev
set_option linter.unusedVariables false
set_option linter.unusedSimpArgs false
set_option maxHeartbeats 4000000

theorem ej (L : List Nde) (hL : L.length ≤ 1000) (keep : List Bool) (hk : keep.length = L.length) : ∀ (m : Nat) (x : Ty) (p : Nat) (v : Va), x.size ≤ m → subAt L p x → (∀ n, fj n v) →
    evL cfg n_ai 0 [.d (.sl (L.map sigD)), .d (.sl (keep.map D.bool)), .d (.int .i64 ((p : Int))), .d v.d] [] = some (.d (projV true keep p x v).d, [])
  | 0, x, p, v, h, _, _ => by have := x.size_pos; omega
  | m + 1, x, p, v, h, hs, hv => by
    obtain ⟨a, b, hat⟩ := pd hs
    have hn : (L.map sigD)[p]? = some (sigD (x, kidAt (p + 1) x.kids, a, b)) := by rw [List.getElem?_map, hat]; rfl
    have hin := ahu hs
    have hpl := kj hs
    have hvs : v.kids.length ≤ 1000000 ∧ ∀ k ∈ v.kids, ∀ n, fj n k := ⟨(hv 1).2.1, fun k hk n => (hv (n + 1)).2.2 k hk⟩
    have hkl := gk x.kids
    have hxs : x.size ≤ L.length := by
      obtain ⟨a, b, rest, h⟩ := hs
      have := congrArg List.length h
      rw [List.length_append, bt, List.length_drop] at this
      omega
    have hsz := x.size_eq
    have IH : ∀ (j : Nat) y u pos, x.kids[j]? = some y → v.kids[j]? = some u → (kidAt (p + 1) x.kids)[j]? = some pos → evL cfg n_ai 0 [.d (.sl (L.map sigD)), .d (.sl (keep.map D.bool)), .d (.int .i64 ((pos : Int))), .d u.d] [] = some (.d (projV true keep pos y u).d, []) := fun j y u pos h1 h2 h3 =>
      ej L hL keep hk m y pos u (by have := Ty.size_kid (List.mem_of_getElem? h1); omega) (k9 hs h1 h3).1 (hvs.2 u (List.mem_of_getElem? h2))
    have hNl : (L.map sigD).length = L.length := List.length_map _
    have hn' : (L.map sigD)[p]? = some (.agg [.int .i64 x.kind, .sl (x.names.map D.str), .sl (x.kids.map Ty.d), .int .i64 x.len, .int .i64 x.prec, .int .i64 x.scale, .sl ((kidAt (p + 1) x.kids).map intN), .int .i64 a, .int .i64 b]) := hn
    clear hn
    rw [o_ai, projV_eq]
    generalize L.map sigD = N at *
    cases hnl : v.null with
    | true =>
      rw [Bool.true_or, if_pos rfl]
      simp (disch := first | omega | (simp only [go_sem, List.length_take, List.length_drop] <;> omega) | assumption | decide | fail) only [go_sem, X_ai, c_ai, hnl, Nat.reduceLeDiff, Nat.reduceLT, Nat.reduceAdd, Int.reduceAdd, Int.reduceSub, Int.reduceNeg, ↓reduceIte, Nat.reduceEqDiff, reduceCtorEq, Int.reduceBEq, Int.reduceBNe, Nat.reduceBEq]
    | false =>
      rw [Bool.false_or]
      rcases Bool.eq_false_or_eq_true (x.kind != 12) with hx | hx
      · rw [hx, if_pos rfl]
        simp (disch := first | omega | (simp only [go_sem, List.length_take, List.length_drop] <;> omega) | assumption | decide | fail) only [go_sem, X_ai, c_ai, hnl, hn', hx, len9, Nat.reduceLeDiff, Nat.reduceLT, Nat.reduceAdd, Int.reduceAdd, Int.reduceSub, Int.reduceNeg, ↓reduceIte, Nat.reduceEqDiff, reduceCtorEq, Int.reduceBEq, Int.reduceBNe, Nat.reduceBEq]
      · rw [hx, if_neg (by decide)]
        obtain ⟨i', l⟩ := aaw N keep (by omega) x p v hvs.1 (by rw [hk]; exact hin) _ rfl (by rw [bj]; omega) hn' IH [.c (.seq pp .ret)] x.kids v.kids 0 (p + 1) [] rfl rfl rfl (Nat.zero_le _) (Nat.zero_le _)
        clear IH
        rw [List.nil_append] at l
        rw [proj_d]
        simp only [if_true]
        generalize bg true keep (p + 1) x.kids v.kids = acc at *
        generalize kidAt (p + 1) x.kids = ks at *
        have fin : go X_ai [.c (.loop qd), .b 0, .c (.seq pp .ret)] ⟨dpE N keep p 0, boxV 7 v ++ box0 8 ++ boxP 9 0 0 []⟩ = some (.d (.agg [.bool false, .int .i64 0, .int .i64 0, .sl [], .sl (acc.map Va.d)]), []) := by
          refine l.trans ?_
          clear l
          simp only [dpE, boxP, box0, boxV, List.cons_append, List.nil_append]
          cases acc with
          | nil => simp (disch := first | omega | (simp only [go_sem, List.length_take, List.length_drop] <;> omega) | assumption | decide | fail) only [go_sem, X_ai, List.map_nil, bb, Nat.reduceLeDiff, Nat.reduceLT, Nat.reduceAdd, Int.reduceAdd, Int.reduceSub, Int.reduceNeg, ↓reduceIte, Nat.reduceEqDiff, reduceCtorEq, Int.reduceBEq, Int.reduceBNe, Nat.reduceBEq]
          | cons y r => simp (disch := first | omega | (simp only [go_sem, List.length_take, List.length_drop] <;> omega) | assumption | decide | fail) only [go_sem, X_ai, List.map_cons, bq, Nat.reduceLeDiff, Nat.reduceLT, Nat.reduceAdd, Int.reduceAdd, Int.reduceSub, Int.reduceNeg, ↓reduceIte, Nat.reduceEqDiff, reduceCtorEq, Int.reduceBEq, Int.reduceBNe, Nat.reduceBEq]
        clear l
        simp only [dpE, boxP, box0, boxV, List.cons_append, List.nil_append, List.map_nil, bb, hnl, nc0] at fin
        simp (disch := first | omega | (simp only [go_sem, List.length_take, List.length_drop] <;> omega) | assumption | decide | fail) only [go_sem, X_ai, c_ai, hnl, hn', hx, len9, List.length_map, Nat.reduceLeDiff, Nat.reduceLT, Nat.reduceAdd, Int.reduceAdd, Int.reduceSub, Int.reduceNeg, ↓reduceIte, Nat.reduceEqDiff, reduceCtorEq, Int.reduceBEq, Int.reduceBNe, Nat.reduceBEq]
        exact fin
theorem l5 (t : Ty) (hs : smallT t.size t) : evL cfg n_bg 0 [.d t.d] [] = some (.d (.bool (rightT t)), []) := by
  rw [o_bg]
  simp (disch := first | omega | (simp only [go_sem, List.length_take, List.length_drop] <;> omega) | assumption | decide | fail) only [go_sem, X_bg, c_bg, law13_Few_ans, ref13_Check_ans t hs, rightT, Nat.reduceLeDiff, Nat.reduceLT, Nat.reduceAdd, Int.reduceAdd, Int.reduceSub, Int.reduceNeg, ↓reduceIte, Nat.reduceEqDiff, reduceCtorEq, Int.reduceBEq, Int.reduceBNe, Nat.reduceBEq]
  repeat' ((try rw [goQ_b]) <;> split <;> rename_i hh <;> (try simp only [Bool.not_eq_true, Bool.not_eq_false, Bool.not_eq_true', Bool.not_eq_false'] at hh) <;> (try simp (disch := first | omega | (simp only [go_sem, List.length_take, List.length_drop] <;> omega) | assumption | decide | fail) only [*, go_sem, law13_Few_ans, ref13_Check_ans t hs, rightT, Nat.reduceLeDiff, Nat.reduceLT, Nat.reduceAdd, Int.reduceAdd, Int.reduceSub, Int.reduceNeg, ↓reduceIte, Nat.reduceEqDiff, reduceCtorEq, Int.reduceBEq, Int.reduceBNe, Nat.reduceBEq]))
theorem apb (t : Ty) (hs : t.size ≤ 100) (cols : List Int) (hc : cols.length ≤ 1000000) : evL cfg n_bp 0 [.d (.sl ((flatR 0 (-1) 1 t).map sigD)), .d (.sl (cols.map (D.int .i64)))] [] = some (aia ((flatR 0 (-1) 1 t).map cnR) cols, []) := by
  refine cm (n := 1) ?_
  have hx : cfg.ext n_bp = some qk := rfl
  have hok := aao t.size (by omega) t 0 (-1) 1 (by omega) (by omega) (by omega)
  have hl : ((flatR 0 (-1) 1 t).map cnR).length = t.size := by rw [List.length_map, bt]
  simp only [evFn, hx, allD, Option.map_some, Option.bind_some, qk, xj, n7]
  rw [hl, hok, if_pos (by simp; omega)]
  rfl
end Go.Proofs.YtnabebdceaoiiaaGreatDoor
