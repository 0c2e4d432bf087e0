/- A stripe's footer as the document's; footers held against each other. -/
import Derived.Test.YtpflgebgmhnipaaGreatDoorPbC
namespace Go.Proofs.YtpflgebgmhnipaaGreatDoor
open Go Go.Ev
set_option linter.unusedVariables false
set_option linter.unusedSimpArgs false
set_option maxHeartbeats 4000000

def plI (p : Int × Int × Int) : D := .agg [.int .i64 p.1, .int .i64 p.2.1, .int .i64 p.2.2]
def enI (p : Int × Int) : D := .agg [.int .i64 p.1, .int .i64 p.2]
def fI (ps : List (Int × Int × Int)) (es : List (Int × Int)) : D := .agg [.sl (ps.map plI), .sl (es.map enI)]
theorem ownPI (ps : List (Int × Int × Int)) (p : Int × Int × Int) : ownZ 3 ((ps ++ [p]).map plI) = .own false 3 (ps.map plI ++ [.agg [.int .i64 p.1, .int .i64 p.2.1, .int .i64 p.2.2]]) := by
  rw [List.map_append, List.map_cons, List.map_nil, ownZ_snoc]; rfl
theorem ownEI (es : List (Int × Int)) (p : Int × Int) : ownZ 2 ((es ++ [p]).map enI) = .own false 2 (es.map enI ++ [.agg [.int .i64 p.1, .int .i64 p.2]]) := by
  rw [List.map_append, List.map_cons, List.map_nil, ownZ_snoc]; rfl
theorem home_ownZ' (z : Nat) (l : List D) : (ownZ z l).home 0 = ownZ z l := by cases l <;> rfl
theorem takeM' {α : Type} (f : α → D) (l : List α) : List.take l.length (l.map f) = l.map f := List.take_of_length_le (by simp)
theorem take3' (a b c : D) : List.take 3 [a, b, c] = [a, b, c] := rfl
theorem take2' (a b : D) : List.take 2 [a, b] = [a, b] := rfl
theorem len3' (a b c : D) : [a, b, c].length = 3 := rfl
theorem len2' (a b : D) : [a, b].length = 2 := rfl
abbrev ofM (P E : D) (ps : List (Int × Int × Int)) (es : List (Int × Int)) : List (Cel × V) :=
  [(⟨0, 1, 0⟩, .d P), (⟨0, 1, 1⟩, .d E), (⟨0, 2, 0⟩, .d .nilS), (⟨0, 2, 1⟩, .d .nilS), (⟨0, 3, 0⟩, ownZ 3 (ps.map plI)), (⟨0, 3, 1⟩, ownZ 2 (es.map enI))]
theorem Of_ps (all : List (Int × Int × Int)) (E : List (Int × Int)) (hn : all.length ≤ 1000000) (K : List Kf) : ∀ (r : List (Int × Int × Int)) (i : Nat) (ps : List (Int × Int × Int)), all.drop i = r → ps.length ≤ i → i ≤ all.length →
    go X_ingotlaw22_Of (.c (.loop b_ingotlaw22_Of_6) :: .b 0 :: K) ⟨[(1, .ref 0 1 0), (2, .ref 0 2 0), (3, .ref 0 3 0), (4, .d (.int .i64 ((i : Int))))], ofM (.sl (all.map plI)) (.sl (E.map enI)) ps []⟩ =
      go X_ingotlaw22_Of K ⟨[(1, .ref 0 1 0), (2, .ref 0 2 0), (3, .ref 0 3 0), (4, .d (.int .i64 ((all.length : Int)))), (10, .d (.bool (false)))], ofM (.sl (all.map plI)) (.sl (E.map enI)) (ps ++ r) []⟩
  | [], i, ps, hr, hp, hi => by
    have := dropEnd hr
    have : i = all.length := by omega
    subst this
    have d_a : decide ((all.length : Int) < all.length) = false := by simp <;> omega
    rw [go_loop, List.append_nil]
    unfold ofM
    simp (disch := first | omega | (simp only [go_sem, List.length_take, List.length_drop] <;> omega) | assumption | decide | fail) only [go_sem, X_ingotlaw22_Of, d_a, List.length_map, home_ownZ', Nat.reduceLeDiff, Nat.reduceLT, Nat.reduceAdd, Int.reduceAdd, Int.reduceSub, Int.reduceNeg, ↓reduceIte, Nat.reduceEqDiff, reduceCtorEq, Int.reduceBEq, Int.reduceBNe, Nat.reduceBEq]
  | x :: r, i, ps, hr, hp, hi => by
    obtain ⟨h1, h2, h3⟩ := dropAt hr
    have d_a : decide ((i : Int) < all.length) = true := by simp <;> omega
    have ih := Of_ps all E hn K r (i + 1) (ps ++ [x]) h3 (by simp; omega) h1
    rw [show (((i + 1 : Nat)) : Int) = (i : Int) + 1 by omega, List.append_assoc, List.singleton_append] at ih
    rw [← ih]
    unfold ofM
    rw [ownPI, go_loop]
    cases ps with
    | nil =>
      simp (disch := first | omega | (simp only [go_sem, List.length_take, List.length_drop] <;> omega) | assumption | decide | fail) only [go_sem, X_ingotlaw22_Of, d_a, List.length_map, home_ownZ', evIdx_sl, Int.toNat_natCast, List.getElem?_map, h2, Option.map_some, plI, List.map_nil, ownZ_nil, len3', List.nil_append, Nat.reduceLeDiff, Nat.reduceLT, Nat.reduceAdd, Int.reduceAdd, Int.reduceSub, Int.reduceNeg, ↓reduceIte, Nat.reduceEqDiff, reduceCtorEq, Int.reduceBEq, Int.reduceBNe, Nat.reduceBEq]
    | cons y ps =>
      simp only [List.length_cons] at hp
      rw [List.map_cons]
      generalize plI y = w
      simp (disch := first | omega | (simp only [go_sem, List.length_take, List.length_drop] <;> omega) | assumption | decide | fail) only [go_sem, X_ingotlaw22_Of, d_a, List.length_map, home_ownZ', evIdx_sl, Int.toNat_natCast, List.getElem?_map, h2, Option.map_some, plI, ownZ_cons, len3', List.cons_append, Nat.reduceLeDiff, Nat.reduceLT, Nat.reduceAdd, Int.reduceAdd, Int.reduceSub, Int.reduceNeg, ↓reduceIte, Nat.reduceEqDiff, reduceCtorEq, Int.reduceBEq, Int.reduceBNe, Nat.reduceBEq]
theorem Of_es (P : List (Int × Int × Int)) (all : List (Int × Int)) (hn : all.length ≤ 1000000) (K : List Kf) : ∀ (r : List (Int × Int)) (i : Nat) (es : List (Int × Int)), all.drop i = r → es.length ≤ i → i ≤ all.length →
    go X_ingotlaw22_Of (.c (.loop b_ingotlaw22_Of_11) :: .b 2 :: K) ⟨[(1, .ref 0 1 0), (2, .ref 0 2 0), (3, .ref 0 3 0), (5, .d (.int .i64 ((i : Int))))], ofM (.sl (P.map plI)) (.sl (all.map enI)) P es⟩ =
      go X_ingotlaw22_Of K ⟨[(1, .ref 0 1 0), (2, .ref 0 2 0), (3, .ref 0 3 0), (5, .d (.int .i64 ((all.length : Int)))), (41, .d (.bool (false)))], ofM (.sl (P.map plI)) (.sl (all.map enI)) P (es ++ r)⟩
  | [], i, es, hr, hp, hi => by
    have := dropEnd hr
    have : i = all.length := by omega
    subst this
    have d_a : decide ((all.length : Int) < all.length) = false := by simp <;> omega
    rw [go_loop, List.append_nil]
    unfold ofM
    simp (disch := first | omega | (simp only [go_sem, List.length_take, List.length_drop] <;> omega) | assumption | decide | fail) only [go_sem, X_ingotlaw22_Of, d_a, List.length_map, home_ownZ', Nat.reduceLeDiff, Nat.reduceLT, Nat.reduceAdd, Int.reduceAdd, Int.reduceSub, Int.reduceNeg, ↓reduceIte, Nat.reduceEqDiff, reduceCtorEq, Int.reduceBEq, Int.reduceBNe, Nat.reduceBEq]
  | x :: r, i, es, hr, hp, hi => by
    obtain ⟨h1, h2, h3⟩ := dropAt hr
    have d_a : decide ((i : Int) < all.length) = true := by simp <;> omega
    have ih := Of_es P all hn K r (i + 1) (es ++ [x]) h3 (by simp; omega) h1
    rw [show (((i + 1 : Nat)) : Int) = (i : Int) + 1 by omega, List.append_assoc, List.singleton_append] at ih
    rw [← ih]
    unfold ofM
    rw [ownEI, go_loop]
    cases es with
    | nil =>
      simp (disch := first | omega | (simp only [go_sem, List.length_take, List.length_drop] <;> omega) | assumption | decide | fail) only [go_sem, X_ingotlaw22_Of, d_a, List.length_map, home_ownZ', evIdx_sl, Int.toNat_natCast, List.getElem?_map, h2, Option.map_some, enI, List.map_nil, ownZ_nil, len2', List.nil_append, Nat.reduceLeDiff, Nat.reduceLT, Nat.reduceAdd, Int.reduceAdd, Int.reduceSub, Int.reduceNeg, ↓reduceIte, Nat.reduceEqDiff, reduceCtorEq, Int.reduceBEq, Int.reduceBNe, Nat.reduceBEq]
    | cons y es =>
      simp only [List.length_cons] at hp
      rw [List.map_cons]
      generalize enI y = w
      simp (disch := first | omega | (simp only [go_sem, List.length_take, List.length_drop] <;> omega) | assumption | decide | fail) only [go_sem, X_ingotlaw22_Of, d_a, List.length_map, home_ownZ', evIdx_sl, Int.toNat_natCast, List.getElem?_map, h2, Option.map_some, enI, ownZ_cons, len2', List.cons_append, Nat.reduceLeDiff, Nat.reduceLT, Nat.reduceAdd, Int.reduceAdd, Int.reduceSub, Int.reduceNeg, ↓reduceIte, Nat.reduceEqDiff, reduceCtorEq, Int.reduceBEq, Int.reduceBNe, Nat.reduceBEq]
theorem Of_ans (ps : List (Int × Int × Int)) (es : List (Int × Int)) (hp : ps.length ≤ 1000000) (he : es.length ≤ 1000000) : evL cfg n_ingotlaw22_Of 0 [.d (fI ps es)] [] = some (.d (fI ps es), []) := by
  rw [o_ingotlaw22_Of]
  unfold fI
  have h1 := fun K => Of_ps ps es hp K ps 0 [] rfl (Nat.zero_le _) (Nat.zero_le _)
  have h2 := fun K => Of_es ps es he K es 0 [] rfl (Nat.zero_le _) (Nat.zero_le _)
  simp only [ofM, List.map_nil, ownZ_nil, List.nil_append] at h1 h2
  simp (disch := first | omega | (simp only [go_sem, List.length_take, List.length_drop] <;> omega) | assumption | decide | fail) only [go_sem, X_ingotlaw22_Of, c_ingotlaw22_Of, Nat.reduceLeDiff, Nat.reduceLT, Nat.reduceAdd, Int.reduceAdd, Int.reduceSub, Int.reduceNeg, ↓reduceIte, Nat.reduceEqDiff, reduceCtorEq, Int.reduceBEq, Int.reduceBNe, Nat.reduceBEq]
  refine (h1 _).trans ?_
  simp (disch := first | omega | (simp only [go_sem, List.length_take, List.length_drop] <;> omega) | assumption | decide | fail) only [go_sem, X_ingotlaw22_Of, home_ownZ', Nat.reduceLeDiff, Nat.reduceLT, Nat.reduceAdd, Int.reduceAdd, Int.reduceSub, Int.reduceNeg, ↓reduceIte, Nat.reduceEqDiff, reduceCtorEq, Int.reduceBEq, Int.reduceBNe, Nat.reduceBEq]
  refine (h2 _).trans ?_
  cases ps with
  | nil =>
    cases es with
    | nil => simp (disch := first | omega | (simp only [go_sem, List.length_take, List.length_drop] <;> omega) | assumption | decide | fail) only [go_sem, X_ingotlaw22_Of, List.map_nil, ownZ_nil, Nat.reduceLeDiff, Nat.reduceLT, Nat.reduceAdd, Int.reduceAdd, Int.reduceSub, Int.reduceNeg, ↓reduceIte, Nat.reduceEqDiff, reduceCtorEq, Int.reduceBEq, Int.reduceBNe, Nat.reduceBEq]
    | cons z es => simp (disch := first | omega | (simp only [go_sem, List.length_take, List.length_drop] <;> omega) | assumption | decide | fail) only [go_sem, X_ingotlaw22_Of, List.map_nil, List.map_cons, ownZ_nil, ownZ_cons, List.length_map, List.length_cons, List.take_succ_cons, takeM', Nat.reduceLeDiff, Nat.reduceLT, Nat.reduceAdd, Int.reduceAdd, Int.reduceSub, Int.reduceNeg, ↓reduceIte, Nat.reduceEqDiff, reduceCtorEq, Int.reduceBEq, Int.reduceBNe, Nat.reduceBEq]
  | cons y ps =>
    cases es with
    | nil => simp (disch := first | omega | (simp only [go_sem, List.length_take, List.length_drop] <;> omega) | assumption | decide | fail) only [go_sem, X_ingotlaw22_Of, List.map_nil, List.map_cons, ownZ_nil, ownZ_cons, List.length_map, List.length_cons, List.take_succ_cons, takeM', Nat.reduceLeDiff, Nat.reduceLT, Nat.reduceAdd, Int.reduceAdd, Int.reduceSub, Int.reduceNeg, ↓reduceIte, Nat.reduceEqDiff, reduceCtorEq, Int.reduceBEq, Int.reduceBNe, Nat.reduceBEq]
    | cons z es => simp (disch := first | omega | (simp only [go_sem, List.length_take, List.length_drop] <;> omega) | assumption | decide | fail) only [go_sem, X_ingotlaw22_Of, List.map_nil, List.map_cons, ownZ_nil, ownZ_cons, List.length_map, List.length_cons, List.take_succ_cons, takeM', Nat.reduceLeDiff, Nat.reduceLT, Nat.reduceAdd, Int.reduceAdd, Int.reduceSub, Int.reduceNeg, ↓reduceIte, Nat.reduceEqDiff, reduceCtorEq, Int.reduceBEq, Int.reduceBNe, Nat.reduceBEq]
abbrev saM (P E : D) : List (Cel × V) := [(⟨0, 2, 0⟩, .d P), (⟨0, 2, 1⟩, .d E), (⟨0, 3, 0⟩, .d P), (⟨0, 3, 1⟩, .d E)]
theorem beqI (i : Int) : (i == i) = true := beq_self_eq_true i
theorem bneI (i : Int) : (i != i) = false := bne_self_eq_false i
theorem same_ps (all : List (Int × Int × Int)) (E : D) (hn : all.length ≤ 1000000) (K : List Kf) : ∀ (r : List (Int × Int × Int)) (i : Nat), all.drop i = r → i ≤ all.length →
    go X_ingotlaw22_same (.c (.loop b_ingotlaw22_same_8) :: .b 0 :: K) ⟨[(2, .ref 0 2 0), (3, .ref 0 3 0), (5, .d (.int .i64 ((i : Int))))], saM (.sl (all.map plI)) E⟩ =
      go X_ingotlaw22_same K ⟨[(2, .ref 0 2 0), (3, .ref 0 3 0), (5, .d (.int .i64 ((all.length : Int)))), (27, .d (.bool (false)))], saM (.sl (all.map plI)) E⟩
  | [], i, hr, hi => by
    have := dropEnd hr
    have : i = all.length := by omega
    subst this
    have d_a : decide ((all.length : Int) < all.length) = false := by simp <;> omega
    rw [go_loop]
    simp (disch := first | omega | (simp only [go_sem, List.length_take, List.length_drop] <;> omega) | assumption | decide | fail) only [go_sem, X_ingotlaw22_same, d_a, List.length_map, Nat.reduceLeDiff, Nat.reduceLT, Nat.reduceAdd, Int.reduceAdd, Int.reduceSub, Int.reduceNeg, ↓reduceIte, Nat.reduceEqDiff, reduceCtorEq, Int.reduceBEq, Int.reduceBNe, Nat.reduceBEq]
  | x :: r, i, hr, hi => by
    obtain ⟨h1, h2, h3⟩ := dropAt hr
    have d_a : decide ((i : Int) < all.length) = true := by simp <;> omega
    have ih := same_ps all E hn K r (i + 1) h3 h1
    rw [show (((i + 1 : Nat)) : Int) = (i : Int) + 1 by omega] at ih
    rw [← ih]
    rw [go_loop]
    simp (disch := first | omega | (simp only [go_sem, List.length_take, List.length_drop] <;> omega) | assumption | decide | fail) only [go_sem, X_ingotlaw22_same, d_a, List.length_map, evIdx_sl, Int.toNat_natCast, List.getElem?_map, h2, Option.map_some, plI, len3', take3', beqI, bneI, Bool.and_self, Bool.not_true, Nat.reduceLeDiff, Nat.reduceLT, Nat.reduceAdd, Int.reduceAdd, Int.reduceSub, Int.reduceNeg, ↓reduceIte, Nat.reduceEqDiff, reduceCtorEq, Int.reduceBEq, Int.reduceBNe, Nat.reduceBEq]
theorem same_es (P : D) (all : List (Int × Int)) (hn : all.length ≤ 1000000) (K : List Kf) : ∀ (r : List (Int × Int)) (i : Nat), all.drop i = r → i ≤ all.length →
    go X_ingotlaw22_same (.c (.loop b_ingotlaw22_same_14) :: .b 2 :: K) ⟨[(2, .ref 0 2 0), (3, .ref 0 3 0), (6, .d (.int .i64 ((i : Int))))], saM P (.sl (all.map enI))⟩ =
      go X_ingotlaw22_same K ⟨[(2, .ref 0 2 0), (3, .ref 0 3 0), (6, .d (.int .i64 ((all.length : Int)))), (45, .d (.bool (false)))], saM P (.sl (all.map enI))⟩
  | [], i, hr, hi => by
    have := dropEnd hr
    have : i = all.length := by omega
    subst this
    have d_a : decide ((all.length : Int) < all.length) = false := by simp <;> omega
    rw [go_loop]
    simp (disch := first | omega | (simp only [go_sem, List.length_take, List.length_drop] <;> omega) | assumption | decide | fail) only [go_sem, X_ingotlaw22_same, d_a, List.length_map, Nat.reduceLeDiff, Nat.reduceLT, Nat.reduceAdd, Int.reduceAdd, Int.reduceSub, Int.reduceNeg, ↓reduceIte, Nat.reduceEqDiff, reduceCtorEq, Int.reduceBEq, Int.reduceBNe, Nat.reduceBEq]
  | x :: r, i, hr, hi => by
    obtain ⟨h1, h2, h3⟩ := dropAt hr
    have d_a : decide ((i : Int) < all.length) = true := by simp <;> omega
    have ih := same_es P all hn K r (i + 1) h3 h1
    rw [show (((i + 1 : Nat)) : Int) = (i : Int) + 1 by omega] at ih
    rw [← ih]
    rw [go_loop]
    simp (disch := first | omega | (simp only [go_sem, List.length_take, List.length_drop] <;> omega) | assumption | decide | fail) only [go_sem, X_ingotlaw22_same, d_a, List.length_map, evIdx_sl, Int.toNat_natCast, List.getElem?_map, h2, Option.map_some, enI, len2', take2', beqI, bneI, Bool.and_self, Bool.not_true, Nat.reduceLeDiff, Nat.reduceLT, Nat.reduceAdd, Int.reduceAdd, Int.reduceSub, Int.reduceNeg, ↓reduceIte, Nat.reduceEqDiff, reduceCtorEq, Int.reduceBEq, Int.reduceBNe, Nat.reduceBEq]
theorem same_ans (ps : List (Int × Int × Int)) (es : List (Int × Int)) (hp : ps.length ≤ 1000000) (he : es.length ≤ 1000000) : evL cfg n_ingotlaw22_same 0 [.d (fI ps es), .d (fI ps es)] [] = some (.d (.bool (true)), []) := by
  rw [o_ingotlaw22_same]
  unfold fI
  have h1 := fun K => same_ps ps (.sl (es.map enI)) hp K ps 0 rfl (Nat.zero_le _)
  have h2 := fun K => same_es (.sl (ps.map plI)) es he K es 0 rfl (Nat.zero_le _)
  simp (disch := first | omega | (simp only [go_sem, List.length_take, List.length_drop] <;> omega) | assumption | decide | fail) only [go_sem, X_ingotlaw22_same, c_ingotlaw22_same, bneI, Nat.reduceLeDiff, Nat.reduceLT, Nat.reduceAdd, Int.reduceAdd, Int.reduceSub, Int.reduceNeg, ↓reduceIte, Nat.reduceEqDiff, reduceCtorEq, Int.reduceBEq, Int.reduceBNe, Nat.reduceBEq]
  refine (h1 _).trans ?_
  simp (disch := first | omega | (simp only [go_sem, List.length_take, List.length_drop] <;> omega) | assumption | decide | fail) only [go_sem, X_ingotlaw22_same, Nat.reduceLeDiff, Nat.reduceLT, Nat.reduceAdd, Int.reduceAdd, Int.reduceSub, Int.reduceNeg, ↓reduceIte, Nat.reduceEqDiff, reduceCtorEq, Int.reduceBEq, Int.reduceBNe, Nat.reduceBEq]
  refine (h2 _).trans ?_
  simp (disch := first | omega | (simp only [go_sem, List.length_take, List.length_drop] <;> omega) | assumption | decide | fail) only [go_sem, X_ingotlaw22_same, Nat.reduceLeDiff, Nat.reduceLT, Nat.reduceAdd, Int.reduceAdd, Int.reduceSub, Int.reduceNeg, ↓reduceIte, Nat.reduceEqDiff, reduceCtorEq, Int.reduceBEq, Int.reduceBNe, Nat.reduceBEq]
end Go.Proofs.YtpflgebgmhnipaaGreatDoor
