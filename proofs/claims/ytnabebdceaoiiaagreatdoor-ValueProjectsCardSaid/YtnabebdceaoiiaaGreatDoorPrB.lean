/- Values without what is not kept: plain; by the program. -/
import Derived.Test.YtnabebdceaoiiaaGreatDoorPrA
import Derived.Test.YtnabebdceaoiiaaGreatDoorTyG
namespace Go.Proofs.YtnabebdceaoiiaaGreatDoor
open Go Go.Ev
set_option linter.unusedVariables false
set_option linter.unusedSimpArgs false
set_option maxHeartbeats 4000000

abbrev Nde := Ty × List Nat × Int × Int
/-- at place p of a tree's columns begin those of x -/
def subAt (L : List Nde) (p : Nat) (x : Ty) : Prop := ∃ a b rest, L.drop p = flatR p a b x ++ rest
theorem pd {L : List Nde} {p : Nat} {x : Ty} (h : subAt L p x) : ∃ a b, L[p]? = some (x, kidAt (p + 1) x.kids, a, b) := by
  obtain ⟨a, b, rest, h⟩ := h
  rw [jd] at h
  refine ⟨a, b, ?_⟩
  have := congrArg (fun l => l[0]?) h
  simpa using this
theorem me {par : Nat} {d : Int} : ∀ (ks : List Ty) (i j : Nat) (y : Ty) (pos : Nat), ks[j]? = some y → (kidAt i ks)[j]? = some pos → ∃ rest, i ≤ pos ∧ (bh i par d ks).drop (pos - i) = flatR pos par d y ++ rest
  | [], i, j, y, pos, h, _ => by simp at h
  | k :: r, i, 0, y, pos, h, h' => by
    simp only [List.getElem?_cons_zero, Option.some.injEq] at h
    rw [kidAt_cons, List.getElem?_cons_zero, Option.some.injEq] at h'
    subst h; subst h'
    exact ⟨bh (i + k.size) par d r, Nat.le_refl _, by rw [Nat.sub_self, List.drop_zero, bh]⟩
  | k :: r, i, j + 1, y, pos, h, h' => by
    rw [kidAt_cons, List.getElem?_cons_succ] at h'
    obtain ⟨rest, h1, h2⟩ := me r (i + k.size) j y pos (by simpa using h) h'
    refine ⟨rest, by omega, ?_⟩
    rw [bh, List.drop_append, bt, List.drop_of_length_le (by rw [bt]; omega), List.nil_append, ← h2]
    congr 1; omega
theorem k9 {L : List Nde} {p : Nat} {x : Ty} (h : subAt L p x) {j : Nat} {y : Ty} {pos : Nat} (hy : x.kids[j]? = some y) (hp : (kidAt (p + 1) x.kids)[j]? = some pos) : subAt L pos y ∧ p < pos := by
  obtain ⟨a, b, rest, h⟩ := h
  rw [jd] at h
  obtain ⟨rest2, h1, h2⟩ := me (par := p) (d := b + 1) x.kids (p + 1) j y pos hy hp
  refine ⟨⟨(p : Int), b + 1, rest2 ++ rest, ?_⟩, by omega⟩
  have : L.drop pos = (L.drop p).drop (pos - p) := by rw [List.drop_drop]; congr 1; omega
  rw [this, h, List.cons_append, show pos - p = (pos - (p + 1)) + 1 by omega, List.drop_succ_cons, List.drop_append]
  have hlen : pos - (p + 1) ≤ (bh (p + 1) p (b + 1) x.kids).length := by
    apply Classical.byContradiction
    intro hc
    rw [List.drop_of_length_le (by omega)] at h2
    have := congrArg List.length h2
    rw [List.length_append, bt] at this
    have := y.size_pos
    simp at *
    omega
  rw [h2, List.append_assoc, Nat.sub_eq_zero_of_le hlen, List.drop_zero]
theorem air (t : Ty) (a b : Int) : subAt (flatR 0 a b t) 0 t := ⟨a, b, [], by simp⟩
theorem kj {L : List Nde} {p : Nat} {x : Ty} (h : subAt L p x) : p < L.length := by
  obtain ⟨a, b, h⟩ := pd h
  exact (List.getElem?_eq_some_iff.1 h).1

/-! what a value without what is not kept is; z: whether numbers go, too -/
mutual
def projV (z : Bool) (keep : List Bool) (p : Nat) : Ty → Va → Va
  | .mk k ns ks l pr s, v => if (v.null || k != 12) = true then v else .mk false (if z then 0 else v.i) (if z then 0 else v.n) [] (bg z keep (p + 1) ks v.kids)
def bg (z : Bool) (keep : List Bool) (p : Nat) : List Ty → List Va → List Va
  | k :: r, v :: vs => if keep.getD p false = true then projV z keep p k v :: bg z keep (p + k.size) r vs else bg z keep (p + k.size) r vs
  | _, _ => []
end
theorem projV_eq (z : Bool) (keep : List Bool) (p : Nat) (t : Ty) (v : Va) : projV z keep p t v = if (v.null || t.kind != 12) = true then v else .mk false (if z then 0 else v.i) (if z then 0 else v.n) [] (bg z keep (p + 1) t.kids v.kids) := by
  cases t; rw [projV]; rfl
theorem projVs_cons (z : Bool) (keep : List Bool) (p : Nat) (k : Ty) (r : List Ty) (v : Va) (vs : List Va) : bg z keep p (k :: r) (v :: vs) = if keep.getD p false = true then projV z keep p k v :: bg z keep (p + k.size) r vs else bg z keep (p + k.size) r vs := by rw [bg]
theorem projVs_nil (z : Bool) (keep : List Bool) (p : Nat) (vs : List Va) : bg z keep p [] vs = [] := by rw [bg]; simp
theorem projVs_nil2 (z : Bool) (keep : List Bool) (p : Nat) (ks : List Ty) : bg z keep p ks [] = [] := by rw [bg]; simp

abbrev boxP (k : Nat) (i n : Int) (acc : List Va) : List (Cel × V) := [(⟨0, k, 0⟩, .d (.bool (false))), (⟨0, k, 1⟩, .d (.int .i64 (i))), (⟨0, k, 2⟩, .d (.int .i64 (n))), (⟨0, k, 3⟩, .d .nilS), (⟨0, k, 4⟩, ownZ 5 (acc.map Va.d))]
abbrev pjE (N : List D) (keep : List Bool) (ks : List Nat) (i : Nat) : List (Nat × V) := [(0, .d (.sl N)), (1, .d (.sl (keep.map D.bool))), (6, .ref 0 6 0), (8, .ref 0 8 0), (9, .ref 0 9 0), (31, .d (.sl (ks.map intN))), (32, .d (.int .i64 ((ks.length : Int)))), (33, .d (.int .i64 ((i : Int))))]
theorem pj_loop (N : List D) (keep : List Bool) (hN : N.length ≤ 10000) (hkl : keep.length ≤ 10000) (x : Ty) (p : Nat) (v : Va) (hnl : v.null = false) (hk : x.kids.length ≤ 10000) (hvk : v.kids.length ≤ 1000000) (hin : ∀ q ∈ kidAt (p + 1) x.kids, q < keep.length)
    (IH : ∀ (j : Nat) y u pos, x.kids[j]? = some y → v.kids[j]? = some u → (kidAt (p + 1) x.kids)[j]? = some pos → evL cfg n_aj 0 [.d (.sl N), .d (.sl (keep.map D.bool)), .d u.d, .d (.int .i64 ((pos : Int)))] [] = some (.d (projV false keep pos y u).d, [])) (K : List Kf) :
    ∀ (r : List Ty) (vs : List Va) (i q : Nat) (acc : List Va), x.kids.drop i = r → v.kids.drop i = vs → (kidAt (p + 1) x.kids).drop i = kidAt q r → i ≤ x.kids.length → acc.length ≤ i →
    go X_aj (.c (.loop qb) :: .b 0 :: K) ⟨pjE N keep (kidAt (p + 1) x.kids) i, boxV 6 v ++ box0 8 ++ boxP 9 v.i v.n acc⟩ =
      go X_aj K ⟨pjE N keep (kidAt (p + 1) x.kids) x.kids.length ++ [(34, .d (.bool (false)))], boxV 6 v ++ box0 8 ++ boxP 9 v.i v.n (acc ++ bg false keep q r vs)⟩
  | [], vs, i, q, acc, hr, hvs, hkr, hi, ha => by
    have := bm hr
    have : i = x.kids.length := by omega
    subst this
    have e := bj x.kids (p + 1)
    rw [projVs_nil, List.append_nil, go_loop]
    generalize kidAt (p + 1) x.kids = ks at *
    have d_a : decide ((x.kids.length : Int) < ks.length) = false := by simp <;> omega
    simp only [pjE, boxP, box0, boxV, List.cons_append, List.nil_append]
    simp (disch := first | omega | (simp only [go_sem, List.length_take, List.length_drop] <;> omega) | assumption | decide | fail) only [go_sem, X_aj, d_a, ak, Nat.reduceLeDiff, Nat.reduceLT, Nat.reduceAdd, Int.reduceAdd, Int.reduceSub, Int.reduceNeg, ↓reduceIte, Nat.reduceEqDiff, reduceCtorEq, Int.reduceBEq, Int.reduceBNe, Nat.reduceBEq]
  | y :: r, vs, i, q, acc, hr, hvs, hkr, hi, ha => by
    obtain ⟨hlt, hc, hr'⟩ := bp hr
    rw [kidAt_cons] at hkr
    obtain ⟨hlt2, hc2, hkr'⟩ := bp hkr
    have hq := hin q (List.mem_of_getElem? hc2)
    have e := bj x.kids (p + 1)
    obtain ⟨b, hb⟩ : ∃ b, keep[q]? = some b := ⟨_, List.getElem?_eq_getElem hq⟩
    have hbd : keep.getD q false = b := by rw [List.getD_eq_getElem?_getD, hb]; rfl
    have d_a : decide ((i : Int) < (kidAt (p + 1) x.kids).length) = true := by simp <;> omega
    have hpos : q < 9223372036854775808 := by omega
    cases vs with
    | nil =>
      have hv0 := bm hvs
      have ih := pj_loop N keep hN hkl x p v hnl hk hvk hin IH K r [] (i + 1) (q + y.size) acc hr' (by rw [List.drop_of_length_le (by omega)]) hkr' hlt (by omega)
      rw [projVs_nil2, List.append_nil] at ih ⊢
      refine Eq.trans ?_ ih
      clear ih IH
      have d_c : decide ((i : Int) < v.kids.length) = false := by simp <;> omega
      generalize kidAt (p + 1) x.kids = ks at *
      simp only [pjE, boxP, box0, boxV, List.cons_append, List.nil_append]
      conv => lhs; rw [go_loop]
      cases b with
      | false => simp (disch := first | omega | (simp only [go_sem, List.length_take, List.length_drop] <;> omega) | assumption | decide | fail) only [go_sem, X_aj, d_a, ak, hc2, hb, List.getElem?_map, Option.map_some, intN, Int.natCast_add, Nat.reduceLeDiff, Nat.reduceLT, Nat.reduceAdd, Int.reduceAdd, Int.reduceSub, Int.reduceNeg, ↓reduceIte, Nat.reduceEqDiff, reduceCtorEq, Int.reduceBEq, Int.reduceBNe, Nat.reduceBEq]
      | true => simp (disch := first | omega | (simp only [go_sem, List.length_take, List.length_drop] <;> omega) | assumption | decide | fail) only [go_sem, X_aj, d_a, d_c, ak, hc2, hb, List.getElem?_map, Option.map_some, intN, Int.natCast_add, List.length_map, Nat.reduceLeDiff, Nat.reduceLT, Nat.reduceAdd, Int.reduceAdd, Int.reduceSub, Int.reduceNeg, ↓reduceIte, Nat.reduceEqDiff, reduceCtorEq, Int.reduceBEq, Int.reduceBNe, Nat.reduceBEq]
    | cons u vs =>
      obtain ⟨hltv, hcv, hvs'⟩ := bp hvs
      rw [projVs_cons, hbd]
      cases b with
      | false =>
        have ih := pj_loop N keep hN hkl x p v hnl hk hvk hin IH K r vs (i + 1) (q + y.size) acc hr' hvs' hkr' hlt (by omega)
        rw [if_neg (by decide)]
        refine Eq.trans ?_ ih
        clear ih IH
        generalize kidAt (p + 1) x.kids = ks at *
        simp only [pjE, boxP, box0, boxV, List.cons_append, List.nil_append]
        conv => lhs; rw [go_loop]
        simp (disch := first | omega | (simp only [go_sem, List.length_take, List.length_drop] <;> omega) | assumption | decide | fail) only [go_sem, X_aj, d_a, ak, hc2, hb, List.getElem?_map, Option.map_some, intN, Int.natCast_add, Nat.reduceLeDiff, Nat.reduceLT, Nat.reduceAdd, Int.reduceAdd, Int.reduceSub, Int.reduceNeg, ↓reduceIte, Nat.reduceEqDiff, reduceCtorEq, Int.reduceBEq, Int.reduceBNe, Nat.reduceBEq]
      | true =>
        have hf := IH i y u q hc hcv hc2
        have ih := pj_loop N keep hN hkl x p v hnl hk hvk hin IH K r vs (i + 1) (q + y.size) (acc ++ [projV false keep q y u]) hr' hvs' hkr' hlt (by simp; omega)
        rw [if_pos rfl]
        rw [List.append_assoc acc, List.singleton_append] at ih
        refine Eq.trans ?_ ih
        clear ih IH
        have d_c : decide ((i : Int) < v.kids.length) = true := by simp <;> omega
        have hm : acc.length ≤ 1000000 := by omega
        generalize kidAt (p + 1) x.kids = ks at *
        simp only [boxP, kt]
        simp only [pjE, box0, boxV, List.cons_append, List.nil_append]
        conv => lhs; rw [go_loop]
        cases acc with
        | nil => simp (disch := first | omega | (simp only [go_sem, List.length_take, List.length_drop] <;> omega) | assumption | decide | fail) only [go_sem, X_aj, d_a, d_c, ak, hc2, hcv, hb, hf, List.getElem?_map, Option.map_some, intN, Int.natCast_add, List.length_map, List.map_nil, bb, List.nil_append, Nat.reduceLeDiff, Nat.reduceLT, Nat.reduceAdd, Int.reduceAdd, Int.reduceSub, Int.reduceNeg, ↓reduceIte, Nat.reduceEqDiff, reduceCtorEq, Int.reduceBEq, Int.reduceBNe, Nat.reduceBEq]
        | cons z acc =>
          simp only [List.length_cons] at hm
          simp (disch := first | omega | (simp only [go_sem, List.length_take, List.length_drop] <;> omega) | assumption | decide | fail) only [go_sem, X_aj, d_a, d_c, ak, hc2, hcv, hb, hf, List.getElem?_map, Option.map_some, intN, Int.natCast_add, List.length_map, List.map_cons, bq, List.cons_append, List.length_cons, Nat.reduceLeDiff, Nat.reduceLT, Nat.reduceAdd, Int.reduceAdd, Int.reduceSub, Int.reduceNeg, ↓reduceIte, Nat.reduceEqDiff, reduceCtorEq, Int.reduceBEq, Int.reduceBNe, Nat.reduceBEq]
end Go.Proofs.YtnabebdceaoiiaaGreatDoor
