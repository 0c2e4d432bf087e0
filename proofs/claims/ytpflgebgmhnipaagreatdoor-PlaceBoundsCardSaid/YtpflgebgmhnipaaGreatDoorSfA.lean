/- A stripe's footer read: the program's reader. -/
import Derived.Test.YtpflgebgmhnipaaGreatDoorPbD
namespace Go.Proofs.YtpflgebgmhnipaaGreatDoor
open Go Go.Ev
set_option linter.unusedVariables false
set_option linter.unusedSimpArgs false
set_option maxHeartbeats 4000000

def plD (p : Pl) : D := .agg [.int .i64 (p.1 : Int), .int .i64 (p.2.1 : Int), .int .i64 (p.2.2 : Int)]
def enD (p : Nat × Nat) : D := .agg [.int .i64 (p.1 : Int), .int .i64 (p.2 : Int)]
def box3 (k : Nat) : Option Pl → List (Cel × V)
  | none => []
  | some p => [(⟨0, k, 0⟩, .d (.int .i64 ((p.1 : Int)))), (⟨0, k, 1⟩, .d (.int .i64 ((p.2.1 : Int)))), (⟨0, k, 2⟩, .d (.int .i64 ((p.2.2 : Int))))]
/-- boxes that earlier rounds left -/
inductive Left where
  | none
  | a (f : Fld)
  | ab (f : Fld) (p : Pl)
  | ba (p : Pl) (f : Fld)
def Left.m : Left → List (Cel × V)
  | .none => []
  | .a f => boxF 9 (some f)
  | .ab f p => boxF 9 (some f) ++ box3 12 (some p)
  | .ba p f => box3 12 (some p) ++ boxF 9 (some f)
def footD (ps : List Pl) (es : List (Nat × Nat)) (e : Nat) : V := .d (.tup [.agg [.sl (ps.map plD), .sl (es.map enD)], .int .i64 (e : Int)])
def fD (r : Foot) : V := footD r.1 r.2.1 r.2.2
theorem minU (a b : Int) : minD false [.int .u64 a, .int .u64 b] = some (.int .u64 (min a b)) := by
  simp only [minD, minD.go, Bool.false_eq_true, if_false]
  congr 2
  by_cases h : b < a
  · rw [if_pos h]; omega
  · rw [if_neg h]; omega
theorem gz800 : decide ((0 : Int) > 800) = false := rfl
theorem gz100 : decide ((0 : Int) > 100) = false := rfl
theorem takeM {α : Type} (f : α → D) (l : List α) : List.take l.length (l.map f) = l.map f := List.take_of_length_le (by simp)
theorem n33 : decide ((3 : Int) < 3) = false := rfl
theorem n22 : decide ((2 : Int) < 2) = false := rfl
theorem cast3 : ((3 : Nat) : Int) = 3 := rfl
theorem minC (u : Nat) : min (u : Int) 262144 = ((min u 262144 : Nat) : Int) := by omega
theorem leC (u : Nat) : decide ((u : Int) ≤ 262144) = decide (u ≤ 262144) := by
  by_cases h : u ≤ 262144
  · rw [decide_eq_true h, decide_eq_true (by omega)]
  · rw [decide_eq_false h, decide_eq_false (by omega)]
abbrev baseM (ps : List Pl) (es : List (Nat × Nat)) : List (Cel × V) := [(⟨0, 2, 0⟩, .d .nilS), (⟨0, 2, 1⟩, .d .nilS), (⟨0, 6, 0⟩, ownZ 3 (ps.map plD)), (⟨0, 6, 1⟩, ownZ 2 (es.map enD))]
theorem inner0 (fs : List Fld) (ok : Bool) (ps : List Pl) (es : List (Nat × Nat)) (x : Fld) (part : List Fld) (hq : part.length ≤ 1000000) (a b c : Nat) (n i m : Int) (hn : 0 < n) (K : List Kf) :
    go X_sfoot_Decode (.c (.loop b_sfoot_Decode_25) :: K) ⟨[(2, .ref 0 2 0), (6, .ref 0 6 0), (7, .d (.bool (ok))), (9, .ref 0 9 0), (10, .d (.sl (part.map Fld.d))), (12, .ref 0 12 0), (26, .d (.sl (fs.map Fld.d))), (27, .d (.int .i64 (m))), (28, .d (.int .i64 (i))), (61, .d (.int .i64 (n))), (62, .d (.int .i64 (0)))],
        baseM ps es ++ boxF 9 (some x) ++ box3 12 (some (a, b, c))⟩ =
    go X_sfoot_Decode (.c (.loop b_sfoot_Decode_25) :: K) ⟨[(2, .ref 0 2 0), (6, .ref 0 6 0), (7, .d (.bool (ok && decide (uM part 1 ≤ 262144)))), (9, .ref 0 9 0), (10, .d (.sl (part.map Fld.d))), (12, .ref 0 12 0), (26, .d (.sl (fs.map Fld.d))), (27, .d (.int .i64 (m))), (28, .d (.int .i64 (i))), (61, .d (.int .i64 (n))), (62, .d (.int .i64 (1)))],
        baseM ps es ++ boxF 9 (some x) ++ box3 12 (some (min (uM part 1) 262144, b, c))⟩ := by
  have hu := pb_Uint_ans part 1 hq
  unfold uintD at hu
  rw [show ((1 : Nat) : Int) = 1 from rfl] at hu
  unfold uM
  generalize (lastM part 1 0) = o at *
  have d_a : decide ((0 : Int) < n) = true := by simp <;> omega
  conv => lhs; rw [go_loop]
  cases ok with
  | false =>
    simp (disch := first | omega | (simp only [go_sem, List.length_take, List.length_drop] <;> omega) | assumption | decide | fail) only [go_sem, X_sfoot_Decode, d_a, boxF, box3, List.cons_append, List.nil_append, home_ownZ, hu, minU, minC, cast3, Int.reduceLE, Int.reduceLT, Int.reduceToNat, Nat.reduceMul, and_self, if_true, leC, Bool.false_and, Bool.true_and, Nat.reduceLeDiff, Nat.reduceLT, Nat.reduceAdd, Int.reduceAdd, Int.reduceSub, Int.reduceNeg, ↓reduceIte, Nat.reduceEqDiff, reduceCtorEq, Int.reduceBEq, Int.reduceBNe, Nat.reduceBEq]
  | true =>
    simp (disch := first | omega | (simp only [go_sem, List.length_take, List.length_drop] <;> omega) | assumption | decide | fail) only [go_sem, X_sfoot_Decode, d_a, boxF, box3, List.cons_append, List.nil_append, home_ownZ, hu, minU, minC, cast3, Int.reduceLE, Int.reduceLT, Int.reduceToNat, Nat.reduceMul, and_self, if_true, leC, Bool.false_and, Bool.true_and, Nat.reduceLeDiff, Nat.reduceLT, Nat.reduceAdd, Int.reduceAdd, Int.reduceSub, Int.reduceNeg, ↓reduceIte, Nat.reduceEqDiff, reduceCtorEq, Int.reduceBEq, Int.reduceBNe, Nat.reduceBEq]
theorem inner1 (fs : List Fld) (ok : Bool) (ps : List Pl) (es : List (Nat × Nat)) (x : Fld) (part : List Fld) (hq : part.length ≤ 1000000) (a b c : Nat) (n i m : Int) (hn : 1 < n) (K : List Kf) :
    go X_sfoot_Decode (.c (.loop b_sfoot_Decode_25) :: K) ⟨[(2, .ref 0 2 0), (6, .ref 0 6 0), (7, .d (.bool (ok))), (9, .ref 0 9 0), (10, .d (.sl (part.map Fld.d))), (12, .ref 0 12 0), (26, .d (.sl (fs.map Fld.d))), (27, .d (.int .i64 (m))), (28, .d (.int .i64 (i))), (61, .d (.int .i64 (n))), (62, .d (.int .i64 (1)))],
        baseM ps es ++ boxF 9 (some x) ++ box3 12 (some (a, b, c))⟩ =
    go X_sfoot_Decode (.c (.loop b_sfoot_Decode_25) :: K) ⟨[(2, .ref 0 2 0), (6, .ref 0 6 0), (7, .d (.bool (ok && decide (uM part 2 ≤ 262144)))), (9, .ref 0 9 0), (10, .d (.sl (part.map Fld.d))), (12, .ref 0 12 0), (26, .d (.sl (fs.map Fld.d))), (27, .d (.int .i64 (m))), (28, .d (.int .i64 (i))), (61, .d (.int .i64 (n))), (62, .d (.int .i64 (2)))],
        baseM ps es ++ boxF 9 (some x) ++ box3 12 (some (a, min (uM part 2) 262144, c))⟩ := by
  have hu := pb_Uint_ans part 2 hq
  unfold uintD at hu
  rw [show ((2 : Nat) : Int) = 2 from rfl] at hu
  unfold uM
  generalize (lastM part 2 0) = o at *
  have d_a : decide ((1 : Int) < n) = true := by simp <;> omega
  conv => lhs; rw [go_loop]
  cases ok with
  | false =>
    simp (disch := first | omega | (simp only [go_sem, List.length_take, List.length_drop] <;> omega) | assumption | decide | fail) only [go_sem, X_sfoot_Decode, d_a, boxF, box3, List.cons_append, List.nil_append, home_ownZ, hu, minU, minC, cast3, Int.reduceLE, Int.reduceLT, Int.reduceToNat, Nat.reduceMul, and_self, if_true, leC, Bool.false_and, Bool.true_and, Nat.reduceLeDiff, Nat.reduceLT, Nat.reduceAdd, Int.reduceAdd, Int.reduceSub, Int.reduceNeg, ↓reduceIte, Nat.reduceEqDiff, reduceCtorEq, Int.reduceBEq, Int.reduceBNe, Nat.reduceBEq]
  | true =>
    simp (disch := first | omega | (simp only [go_sem, List.length_take, List.length_drop] <;> omega) | assumption | decide | fail) only [go_sem, X_sfoot_Decode, d_a, boxF, box3, List.cons_append, List.nil_append, home_ownZ, hu, minU, minC, cast3, Int.reduceLE, Int.reduceLT, Int.reduceToNat, Nat.reduceMul, and_self, if_true, leC, Bool.false_and, Bool.true_and, Nat.reduceLeDiff, Nat.reduceLT, Nat.reduceAdd, Int.reduceAdd, Int.reduceSub, Int.reduceNeg, ↓reduceIte, Nat.reduceEqDiff, reduceCtorEq, Int.reduceBEq, Int.reduceBNe, Nat.reduceBEq]
theorem inner2 (fs : List Fld) (ok : Bool) (ps : List Pl) (es : List (Nat × Nat)) (x : Fld) (part : List Fld) (hq : part.length ≤ 1000000) (a b c : Nat) (n i m : Int) (hn : 2 < n) (K : List Kf) :
    go X_sfoot_Decode (.c (.loop b_sfoot_Decode_25) :: K) ⟨[(2, .ref 0 2 0), (6, .ref 0 6 0), (7, .d (.bool (ok))), (9, .ref 0 9 0), (10, .d (.sl (part.map Fld.d))), (12, .ref 0 12 0), (26, .d (.sl (fs.map Fld.d))), (27, .d (.int .i64 (m))), (28, .d (.int .i64 (i))), (61, .d (.int .i64 (n))), (62, .d (.int .i64 (2)))],
        baseM ps es ++ boxF 9 (some x) ++ box3 12 (some (a, b, c))⟩ =
    go X_sfoot_Decode (.c (.loop b_sfoot_Decode_25) :: K) ⟨[(2, .ref 0 2 0), (6, .ref 0 6 0), (7, .d (.bool (ok && decide (uM part 3 ≤ 262144)))), (9, .ref 0 9 0), (10, .d (.sl (part.map Fld.d))), (12, .ref 0 12 0), (26, .d (.sl (fs.map Fld.d))), (27, .d (.int .i64 (m))), (28, .d (.int .i64 (i))), (61, .d (.int .i64 (n))), (62, .d (.int .i64 (3)))],
        baseM ps es ++ boxF 9 (some x) ++ box3 12 (some (a, b, min (uM part 3) 262144))⟩ := by
  have hu := pb_Uint_ans part 3 hq
  unfold uintD at hu
  rw [show ((3 : Nat) : Int) = 3 from rfl] at hu
  unfold uM
  generalize (lastM part 3 0) = o at *
  have d_a : decide ((2 : Int) < n) = true := by simp <;> omega
  conv => lhs; rw [go_loop]
  cases ok with
  | false =>
    simp (disch := first | omega | (simp only [go_sem, List.length_take, List.length_drop] <;> omega) | assumption | decide | fail) only [go_sem, X_sfoot_Decode, d_a, boxF, box3, List.cons_append, List.nil_append, home_ownZ, hu, minU, minC, cast3, Int.reduceLE, Int.reduceLT, Int.reduceToNat, Nat.reduceMul, and_self, if_true, leC, Bool.false_and, Bool.true_and, Nat.reduceLeDiff, Nat.reduceLT, Nat.reduceAdd, Int.reduceAdd, Int.reduceSub, Int.reduceNeg, ↓reduceIte, Nat.reduceEqDiff, reduceCtorEq, Int.reduceBEq, Int.reduceBNe, Nat.reduceBEq]
  | true =>
    simp (disch := first | omega | (simp only [go_sem, List.length_take, List.length_drop] <;> omega) | assumption | decide | fail) only [go_sem, X_sfoot_Decode, d_a, boxF, box3, List.cons_append, List.nil_append, home_ownZ, hu, minU, minC, cast3, Int.reduceLE, Int.reduceLT, Int.reduceToNat, Nat.reduceMul, and_self, if_true, leC, Bool.false_and, Bool.true_and, Nat.reduceLeDiff, Nat.reduceLT, Nat.reduceAdd, Int.reduceAdd, Int.reduceSub, Int.reduceNeg, ↓reduceIte, Nat.reduceEqDiff, reduceCtorEq, Int.reduceBEq, Int.reduceBNe, Nat.reduceBEq]
theorem Left.settle (t : Left) : settleM 0 t.m = t.m := by cases t <;> rfl
theorem Left.leave (t : Left) : leaveM 0 t.m = [] := by cases t <;> rfl
theorem sf_tail (fs : List Fld) (n i : Int) (ok : Bool) (ps : List Pl) (es : List (Nat × Nat)) (T : List (Cel × V)) (hS : settleM 0 T = T) (hL : leaveM 0 T = []) (hp : ps.length ≤ 1000000) (he : es.length ≤ 1000000) :
    go X_sfoot_Decode [.c (r_sfoot_Decode_31.seq (.cond (.t 122) (r_sfoot_Decode_32.seq .ret) (r_sfoot_Decode_33.seq .ret)))] ⟨[(2, .ref 0 2 0), (6, .ref 0 6 0), (7, .d (.bool (ok))), (26, .d (.sl (fs.map Fld.d))), (27, .d (.int .i64 (n))), (28, .d (.int .i64 (i))), (29, .d (.bool (false)))],
        (⟨0, 2, 0⟩, .d .nilS) :: (⟨0, 2, 1⟩, .d .nilS) :: (⟨0, 6, 0⟩, ownZ 3 (ps.map plD)) :: (⟨0, 6, 1⟩, ownZ 2 (es.map enD)) :: T⟩ =
      some (fD (decN [] ok ps es), []) := by
  unfold decN
  cases ok with
  | false =>
    rw [if_pos (.inl rfl)]
    simp (disch := first | omega | (simp only [go_sem, List.length_take, List.length_drop] <;> omega) | assumption | decide | fail) only [go_sem, X_sfoot_Decode, home_ownZ, hS, hL, Nat.reduceLeDiff, Nat.reduceLT, Nat.reduceAdd, Int.reduceAdd, Int.reduceSub, Int.reduceNeg, ↓reduceIte, Nat.reduceEqDiff, reduceCtorEq, Int.reduceBEq, Int.reduceBNe, Nat.reduceBEq]
    rfl
  | true =>
    by_cases h1 : 800 < ps.length
    · rw [if_pos (.inr (.inl h1))]
      cases ps with
      | nil => simp at h1
      | cons y ps =>
        simp only [List.length_cons] at h1 hp
        have d_a : decide (((ps.length + 1 : Nat) : Int) > 800) = true := by simp <;> omega
        simp (disch := first | omega | (simp only [go_sem, List.length_take, List.length_drop] <;> omega) | assumption | decide | fail) only [go_sem, X_sfoot_Decode, home_ownZ, hS, hL, List.map_cons, ownZ_cons, List.length_map, List.length_cons, List.take_succ_cons, takeM, d_a, Nat.reduceLeDiff, Nat.reduceLT, Nat.reduceAdd, Int.reduceAdd, Int.reduceSub, Int.reduceNeg, ↓reduceIte, Nat.reduceEqDiff, reduceCtorEq, Int.reduceBEq, Int.reduceBNe, Nat.reduceBEq]
        rfl
    · by_cases h2 : 100 < es.length
      · rw [if_pos (.inr (.inr h2))]
        cases es with
        | nil => simp at h2
        | cons z es =>
          simp only [List.length_cons] at h2 he
          have d_b : decide (((es.length + 1 : Nat) : Int) > 100) = true := by simp <;> omega
          cases ps with
          | nil =>
            simp (disch := first | omega | (simp only [go_sem, List.length_take, List.length_drop] <;> omega) | assumption | decide | fail) only [go_sem, X_sfoot_Decode, home_ownZ, hS, hL, List.map_cons, List.map_nil, ownZ_cons, ownZ_nil, List.length_map, List.length_cons, List.take_succ_cons, takeM, d_b, gz800, Nat.reduceLeDiff, Nat.reduceLT, Nat.reduceAdd, Int.reduceAdd, Int.reduceSub, Int.reduceNeg, ↓reduceIte, Nat.reduceEqDiff, reduceCtorEq, Int.reduceBEq, Int.reduceBNe, Nat.reduceBEq]
            rfl
          | cons y ps =>
            simp only [List.length_cons] at h1 hp
            have d_a : decide (((ps.length + 1 : Nat) : Int) > 800) = false := by simp <;> omega
            simp (disch := first | omega | (simp only [go_sem, List.length_take, List.length_drop] <;> omega) | assumption | decide | fail) only [go_sem, X_sfoot_Decode, home_ownZ, hS, hL, List.map_cons, List.map_nil, ownZ_cons, ownZ_nil, List.length_map, List.length_cons, List.take_succ_cons, takeM, d_a, d_b, Nat.reduceLeDiff, Nat.reduceLT, Nat.reduceAdd, Int.reduceAdd, Int.reduceSub, Int.reduceNeg, ↓reduceIte, Nat.reduceEqDiff, reduceCtorEq, Int.reduceBEq, Int.reduceBNe, Nat.reduceBEq]
            rfl
      · rw [if_neg (by simp; omega)]
        cases ps with
        | nil =>
          cases es with
          | nil =>
            simp (disch := first | omega | (simp only [go_sem, List.length_take, List.length_drop] <;> omega) | assumption | decide | fail) only [go_sem, X_sfoot_Decode, home_ownZ, hS, hL, List.map_cons, List.map_nil, ownZ_cons, ownZ_nil, List.length_map, List.length_cons, List.take_succ_cons, takeM, gz800, gz100, Nat.reduceLeDiff, Nat.reduceLT, Nat.reduceAdd, Int.reduceAdd, Int.reduceSub, Int.reduceNeg, ↓reduceIte, Nat.reduceEqDiff, reduceCtorEq, Int.reduceBEq, Int.reduceBNe, Nat.reduceBEq]
            rfl
          | cons z es =>
            simp only [List.length_cons] at h2 he
            have d_b : decide (((es.length + 1 : Nat) : Int) > 100) = false := by simp <;> omega
            simp (disch := first | omega | (simp only [go_sem, List.length_take, List.length_drop] <;> omega) | assumption | decide | fail) only [go_sem, X_sfoot_Decode, home_ownZ, hS, hL, List.map_cons, List.map_nil, ownZ_cons, ownZ_nil, List.length_map, List.length_cons, List.take_succ_cons, takeM, gz800, d_b, Nat.reduceLeDiff, Nat.reduceLT, Nat.reduceAdd, Int.reduceAdd, Int.reduceSub, Int.reduceNeg, ↓reduceIte, Nat.reduceEqDiff, reduceCtorEq, Int.reduceBEq, Int.reduceBNe, Nat.reduceBEq]
            rfl
        | cons y ps =>
          simp only [List.length_cons] at h1 hp
          have d_a : decide (((ps.length + 1 : Nat) : Int) > 800) = false := by simp <;> omega
          cases es with
          | nil =>
            simp (disch := first | omega | (simp only [go_sem, List.length_take, List.length_drop] <;> omega) | assumption | decide | fail) only [go_sem, X_sfoot_Decode, home_ownZ, hS, hL, List.map_cons, List.map_nil, ownZ_cons, ownZ_nil, List.length_map, List.length_cons, List.take_succ_cons, takeM, d_a, gz100, Nat.reduceLeDiff, Nat.reduceLT, Nat.reduceAdd, Int.reduceAdd, Int.reduceSub, Int.reduceNeg, ↓reduceIte, Nat.reduceEqDiff, reduceCtorEq, Int.reduceBEq, Int.reduceBNe, Nat.reduceBEq]
            rfl
          | cons z es =>
            simp only [List.length_cons] at h2 he
            have d_b : decide (((es.length + 1 : Nat) : Int) > 100) = false := by simp <;> omega
            simp (disch := first | omega | (simp only [go_sem, List.length_take, List.length_drop] <;> omega) | assumption | decide | fail) only [go_sem, X_sfoot_Decode, home_ownZ, hS, hL, List.map_cons, List.map_nil, ownZ_cons, ownZ_nil, List.length_map, List.length_cons, List.take_succ_cons, takeM, d_a, d_b, Nat.reduceLeDiff, Nat.reduceLT, Nat.reduceAdd, Int.reduceAdd, Int.reduceSub, Int.reduceNeg, ↓reduceIte, Nat.reduceEqDiff, reduceCtorEq, Int.reduceBEq, Int.reduceBNe, Nat.reduceBEq]
            rfl
theorem ownP (ps : List Pl) (p : Pl) : ownZ 3 ((ps ++ [p]).map plD) = .own false 3 (ps.map plD ++ [.agg [.int .i64 (p.1 : Int), .int .i64 (p.2.1 : Int), .int .i64 (p.2.2 : Int)]]) := by
  rw [List.map_append, List.map_cons, List.map_nil, ownZ_snoc]; rfl
theorem ownE (es : List (Nat × Nat)) (p : Nat × Nat) : ownZ 2 ((es ++ [p]).map enD) = .own false 2 (es.map enD ++ [.agg [.int .i64 (p.1 : Int), .int .i64 (p.2 : Int)]]) := by
  rw [List.map_append, List.map_cons, List.map_nil, ownZ_snoc]; rfl
theorem len3 (a b c : D) : [a, b, c].length = 3 := rfl
theorem len2 (a b : D) : [a, b].length = 2 := rfl
theorem sfoot_Decode_loop (fs : List Fld) (hn : fs.length ≤ 1000000) (hb : ∀ f ∈ fs, f.b.length ≤ 1000000) : ∀ (r : List Fld) (i : Nat) (ok : Bool) (ps : List Pl) (es : List (Nat × Nat)) (t : Left), fs.drop i = r → ps.length ≤ i → es.length ≤ i → i ≤ fs.length →
    go X_sfoot_Decode [.c (.loop b_sfoot_Decode_30), .b 0, .c (r_sfoot_Decode_31.seq (.cond (.t 122) (r_sfoot_Decode_32.seq .ret) (r_sfoot_Decode_33.seq .ret)))]
      ⟨[(2, .ref 0 2 0), (6, .ref 0 6 0), (7, .d (.bool (ok))), (26, .d (.sl (fs.map Fld.d))), (27, .d (.int .i64 ((fs.length : Int)))), (28, .d (.int .i64 ((i : Int))))], baseM ps es ++ t.m⟩ =
      some (fD (decN r ok ps es), [])
  | [], i, ok, ps, es, t, hr, hp, he, hi => by
    have := dropEnd hr
    have d_a : decide ((i : Int) < fs.length) = false := by simp <;> omega
    have h := sf_tail fs fs.length i ok ps es t.m t.settle t.leave (by omega) (by omega)
    generalize ([Kf.c (r_sfoot_Decode_31.seq (.cond (.t 122) (r_sfoot_Decode_32.seq .ret) (r_sfoot_Decode_33.seq .ret)))] : List Kf) = K at h ⊢
    rw [go_loop]
    have hs := t.settle
    simp (disch := first | omega | (simp only [go_sem, List.length_take, List.length_drop] <;> omega) | assumption | decide | fail) only [go_sem, X_sfoot_Decode, d_a, List.cons_append, List.nil_append, home_ownZ, hs, Nat.reduceLeDiff, Nat.reduceLT, Nat.reduceAdd, Int.reduceAdd, Int.reduceSub, Int.reduceNeg, ↓reduceIte, Nat.reduceEqDiff, reduceCtorEq, Int.reduceBEq, Int.reduceBNe, Nat.reduceBEq]
    exact h
  | x :: r, i, ok, ps, es, t, hr, hp, he, hi => by
    obtain ⟨h1, h2, h3⟩ := dropAt hr
    have d_a : decide ((i : Int) < fs.length) = true := by simp <;> omega
    have hx : x ∈ fs := List.mem_of_getElem? h2
    have hP := pb_Parse_ans x.b (hb x hx)
    have e2 : (x.wire : Int) ≠ 2 ↔ x.wire ≠ 2 := by omega
    have ih := fun ok ps es t h h' => sfoot_Decode_loop fs hn hb r (i + 1) ok ps es t h3 h h' h1
    rw [show (((i + 1 : Nat)) : Int) = (i : Int) + 1 by omega] at ih
    rw [decN]
    by_cases hw : x.wire ≠ 2 ∨ (x.num ≠ 1 ∧ x.num ≠ 2)
    · rw [if_pos hw]
      rw [go_loop]
      by_cases hw2 : x.wire = 2
      · have f1 : ((x.wire : Int) != 2) = false := by rw [hw2]; rfl
        obtain ⟨g1, g2⟩ := hw.resolve_left (by simp [hw2])
        have f2 : ((x.num : Int) != 1) = true := by simp; omega
        have f3 : ((x.num : Int) != 2) = true := by simp; omega
        cases t with
        | none =>
          simp (disch := first | omega | (simp only [go_sem, List.length_take, List.length_drop] <;> omega) | assumption | decide | fail) only [go_sem, X_sfoot_Decode, Left.m, boxF, box3, List.cons_append, List.nil_append, home_ownZ, free_ownZ, freeM_boxF, d_a, List.length_map, evIdx_sl, Int.toNat_natCast, h2, Option.map_some, Fld.d, take5, len5, f1, f2, f3, Nat.reduceLeDiff, Nat.reduceLT, Nat.reduceAdd, Int.reduceAdd, Int.reduceSub, Int.reduceNeg, ↓reduceIte, Nat.reduceEqDiff, reduceCtorEq, Int.reduceBEq, Int.reduceBNe, Nat.reduceBEq]
          exact ih ok ps es (.a x) (by omega) (by omega)
        | a f =>
          simp (disch := first | omega | (simp only [go_sem, List.length_take, List.length_drop] <;> omega) | assumption | decide | fail) only [go_sem, X_sfoot_Decode, Left.m, boxF, box3, List.cons_append, List.nil_append, home_ownZ, free_ownZ, freeM_boxF, d_a, List.length_map, evIdx_sl, Int.toNat_natCast, h2, Option.map_some, Fld.d, take5, len5, f1, f2, f3, Nat.reduceLeDiff, Nat.reduceLT, Nat.reduceAdd, Int.reduceAdd, Int.reduceSub, Int.reduceNeg, ↓reduceIte, Nat.reduceEqDiff, reduceCtorEq, Int.reduceBEq, Int.reduceBNe, Nat.reduceBEq]
          exact ih ok ps es (.a x) (by omega) (by omega)
        | ab f p =>
          simp (disch := first | omega | (simp only [go_sem, List.length_take, List.length_drop] <;> omega) | assumption | decide | fail) only [go_sem, X_sfoot_Decode, Left.m, boxF, box3, List.cons_append, List.nil_append, home_ownZ, free_ownZ, freeM_boxF, d_a, List.length_map, evIdx_sl, Int.toNat_natCast, h2, Option.map_some, Fld.d, take5, len5, f1, f2, f3, Nat.reduceLeDiff, Nat.reduceLT, Nat.reduceAdd, Int.reduceAdd, Int.reduceSub, Int.reduceNeg, ↓reduceIte, Nat.reduceEqDiff, reduceCtorEq, Int.reduceBEq, Int.reduceBNe, Nat.reduceBEq]
          exact ih ok ps es (.ba p x) (by omega) (by omega)
        | ba p f =>
          simp (disch := first | omega | (simp only [go_sem, List.length_take, List.length_drop] <;> omega) | assumption | decide | fail) only [go_sem, X_sfoot_Decode, Left.m, boxF, box3, List.cons_append, List.nil_append, home_ownZ, free_ownZ, freeM_boxF, d_a, List.length_map, evIdx_sl, Int.toNat_natCast, h2, Option.map_some, Fld.d, take5, len5, f1, f2, f3, Nat.reduceLeDiff, Nat.reduceLT, Nat.reduceAdd, Int.reduceAdd, Int.reduceSub, Int.reduceNeg, ↓reduceIte, Nat.reduceEqDiff, reduceCtorEq, Int.reduceBEq, Int.reduceBNe, Nat.reduceBEq]
          exact ih ok ps es (.ba p x) (by omega) (by omega)
      · have f1 : ((x.wire : Int) != 2) = true := by simp; omega
        cases t with
        | none =>
          simp (disch := first | omega | (simp only [go_sem, List.length_take, List.length_drop] <;> omega) | assumption | decide | fail) only [go_sem, X_sfoot_Decode, Left.m, boxF, box3, List.cons_append, List.nil_append, home_ownZ, free_ownZ, freeM_boxF, d_a, List.length_map, evIdx_sl, Int.toNat_natCast, h2, Option.map_some, Fld.d, take5, len5, f1, Nat.reduceLeDiff, Nat.reduceLT, Nat.reduceAdd, Int.reduceAdd, Int.reduceSub, Int.reduceNeg, ↓reduceIte, Nat.reduceEqDiff, reduceCtorEq, Int.reduceBEq, Int.reduceBNe, Nat.reduceBEq]
          exact ih ok ps es (.a x) (by omega) (by omega)
        | a f =>
          simp (disch := first | omega | (simp only [go_sem, List.length_take, List.length_drop] <;> omega) | assumption | decide | fail) only [go_sem, X_sfoot_Decode, Left.m, boxF, box3, List.cons_append, List.nil_append, home_ownZ, free_ownZ, freeM_boxF, d_a, List.length_map, evIdx_sl, Int.toNat_natCast, h2, Option.map_some, Fld.d, take5, len5, f1, Nat.reduceLeDiff, Nat.reduceLT, Nat.reduceAdd, Int.reduceAdd, Int.reduceSub, Int.reduceNeg, ↓reduceIte, Nat.reduceEqDiff, reduceCtorEq, Int.reduceBEq, Int.reduceBNe, Nat.reduceBEq]
          exact ih ok ps es (.a x) (by omega) (by omega)
        | ab f p =>
          simp (disch := first | omega | (simp only [go_sem, List.length_take, List.length_drop] <;> omega) | assumption | decide | fail) only [go_sem, X_sfoot_Decode, Left.m, boxF, box3, List.cons_append, List.nil_append, home_ownZ, free_ownZ, freeM_boxF, d_a, List.length_map, evIdx_sl, Int.toNat_natCast, h2, Option.map_some, Fld.d, take5, len5, f1, Nat.reduceLeDiff, Nat.reduceLT, Nat.reduceAdd, Int.reduceAdd, Int.reduceSub, Int.reduceNeg, ↓reduceIte, Nat.reduceEqDiff, reduceCtorEq, Int.reduceBEq, Int.reduceBNe, Nat.reduceBEq]
          exact ih ok ps es (.ba p x) (by omega) (by omega)
        | ba p f =>
          simp (disch := first | omega | (simp only [go_sem, List.length_take, List.length_drop] <;> omega) | assumption | decide | fail) only [go_sem, X_sfoot_Decode, Left.m, boxF, box3, List.cons_append, List.nil_append, home_ownZ, free_ownZ, freeM_boxF, d_a, List.length_map, evIdx_sl, Int.toNat_natCast, h2, Option.map_some, Fld.d, take5, len5, f1, Nat.reduceLeDiff, Nat.reduceLT, Nat.reduceAdd, Int.reduceAdd, Int.reduceSub, Int.reduceNeg, ↓reduceIte, Nat.reduceEqDiff, reduceCtorEq, Int.reduceBEq, Int.reduceBNe, Nat.reduceBEq]
          exact ih ok ps es (.ba p x) (by omega) (by omega)
    rw [if_neg hw]
    have hw2 : x.wire = 2 := Decidable.not_not.1 (fun h => hw (.inl h))
    have hnum : x.num = 1 ∨ x.num = 2 := by
      by_cases h : x.num = 1
      · exact .inl h
      · exact .inr (Decidable.not_not.1 (fun h' => hw (.inr ⟨h, h'⟩)))
    have f1 : ((x.wire : Int) != 2) = false := by rw [hw2]; rfl
    have hq : (parseM x.b).1.length ≤ 1000000 := Nat.le_trans (parseM_ok x.b).2 (by omega)
    generalize hpm : parseM x.b = pr at *
    obtain ⟨part, er⟩ := pr
    simp only [parseD] at hP hq
    simp only
    rw [go_loop]
    by_cases her : er ≠ 0
    · rw [if_pos her]
      have f4 : ((er : Int) != 0) = true := by simp; omega
      rcases hnum with hnum | hnum
      · have f2 : ((x.num : Int) != 1) = false := by rw [hnum]; rfl
        cases t <;> simp (disch := first | omega | (simp only [go_sem, List.length_take, List.length_drop] <;> omega) | assumption | decide | fail) only [go_sem, X_sfoot_Decode, Left.m, boxF, box3, List.cons_append, List.nil_append, home_ownZ, free_ownZ, freeM_boxF, d_a, List.length_map, evIdx_sl, Int.toNat_natCast, h2, Option.map_some, Fld.d, take5, len5, f1, f2, hP, f4, Nat.reduceLeDiff, Nat.reduceLT, Nat.reduceAdd, Int.reduceAdd, Int.reduceSub, Int.reduceNeg, ↓reduceIte, Nat.reduceEqDiff, reduceCtorEq, Int.reduceBEq, Int.reduceBNe, Nat.reduceBEq] <;> rfl
      · have f2 : ((x.num : Int) != 1) = true := by rw [hnum]; rfl
        have f3 : ((x.num : Int) != 2) = false := by rw [hnum]; rfl
        cases t <;> simp (disch := first | omega | (simp only [go_sem, List.length_take, List.length_drop] <;> omega) | assumption | decide | fail) only [go_sem, X_sfoot_Decode, Left.m, boxF, box3, List.cons_append, List.nil_append, home_ownZ, free_ownZ, freeM_boxF, d_a, List.length_map, evIdx_sl, Int.toNat_natCast, h2, Option.map_some, Fld.d, take5, len5, f1, f2, f3, hP, f4, Nat.reduceLeDiff, Nat.reduceLT, Nat.reduceAdd, Int.reduceAdd, Int.reduceSub, Int.reduceNeg, ↓reduceIte, Nat.reduceEqDiff, reduceCtorEq, Int.reduceBEq, Int.reduceBNe, Nat.reduceBEq] <;> rfl
    · rw [if_neg her]
      have her := Decidable.not_not.1 her
      subst her
      rcases hnum with hnum | hnum
      · have f2 : ((x.num : Int) != 1) = false := by rw [hnum]; rfl
        have f5 : ((x.num : Int) == 1) = true := by rw [hnum]; rfl
        rw [if_pos hnum]
        have q0 := fun K => inner0 fs ok ps es x part hq 0 0 0 3 i fs.length (by omega) K
        have q1 := fun K => inner1 fs (ok && decide (uM part 1 ≤ 262144)) ps es x part hq (min (uM part 1) 262144) 0 0 3 i fs.length (by omega) K
        have q2 := fun K => inner2 fs (ok && decide (uM part 1 ≤ 262144) && decide (uM part 2 ≤ 262144)) ps es x part hq (min (uM part 1) 262144) (min (uM part 2) 262144) 0 3 i fs.length (by omega) K
        have b1 : min (uM part 1) 262144 ≤ 262144 := Nat.min_le_right _ _
        have b2 : min (uM part 2) 262144 ≤ 262144 := Nat.min_le_right _ _
        have b3 : min (uM part 3) 262144 ≤ 262144 := Nat.min_le_right _ _
        have qq := fun K => (q0 K).trans ((q1 K).trans (q2 K))
        clear q0 q1 q2
        have ih := ih (ok && decide (uM part 1 ≤ 262144) && decide (uM part 2 ≤ 262144) && decide (uM part 3 ≤ 262144)) (ps ++ [(min (uM part 1) 262144, min (uM part 2) 262144, min (uM part 3) 262144)]) es
          (.ab x (min (uM part 1) 262144, min (uM part 2) 262144, min (uM part 3) 262144)) (by simp; omega) (by omega)
        generalize (ok && decide (uM part 1 ≤ 262144) && decide (uM part 2 ≤ 262144) && decide (uM part 3 ≤ 262144)) = ok' at *
        generalize min (uM part 1) 262144 = a1 at *
        generalize min (uM part 2) 262144 = a2 at *
        generalize min (uM part 3) 262144 = a3 at *
        rw [← ih]
        clear ih
        unfold baseM
        rw [ownP]
        generalize ([Kf.c (r_sfoot_Decode_31.seq (.cond (.t 122) (r_sfoot_Decode_32.seq .ret) (r_sfoot_Decode_33.seq .ret)))] : List Kf) = K at *
        cases t <;> (
          simp (disch := first | omega | (simp only [go_sem, List.length_take, List.length_drop] <;> omega) | assumption | decide | fail) only [go_sem, X_sfoot_Decode, Left.m, boxF, box3, List.cons_append, List.nil_append, home_ownZ, free_ownZ, freeM_boxF, d_a, List.length_map, evIdx_sl, Int.toNat_natCast, h2, Option.map_some, Fld.d, take5, len5, f1, f2, hP, f5, Nat.reduceLeDiff, Nat.reduceLT, Nat.reduceAdd, Int.reduceAdd, Int.reduceSub, Int.reduceNeg, ↓reduceIte, Nat.reduceEqDiff, reduceCtorEq, Int.reduceBEq, Int.reduceBNe, Nat.reduceBEq]
          refine (qq _).trans ?_
          cases ps with
          | nil =>
            rw [go_loop]
            simp (disch := first | omega | (simp only [go_sem, List.length_take, List.length_drop] <;> omega) | assumption | decide | fail) only [go_sem, X_sfoot_Decode, Left.m, boxF, box3, List.cons_append, List.nil_append, home_ownZ, free_ownZ, freeM_boxF, d_a, List.length_map, evIdx_sl, Int.toNat_natCast, h2, Option.map_some, Fld.d, take5, len5, f5, List.map_nil, ownZ_nil, n33, Nat.reduceMul, Int.reduceToNat, cast3, len3, len2, Int.reduceLE, Int.reduceLT, and_self, if_true, Nat.reduceLeDiff, Nat.reduceLT, Nat.reduceAdd, Int.reduceAdd, Int.reduceSub, Int.reduceNeg, ↓reduceIte, Nat.reduceEqDiff, reduceCtorEq, Int.reduceBEq, Int.reduceBNe, Nat.reduceBEq]
          | cons y ps =>
            simp only [List.length_cons] at hp
            unfold baseM
            rw [List.map_cons]
            generalize plD y = w
            rw [go_loop]
            simp (disch := first | omega | (simp only [go_sem, List.length_take, List.length_drop] <;> omega) | assumption | decide | fail) only [go_sem, X_sfoot_Decode, Left.m, boxF, box3, List.cons_append, List.nil_append, home_ownZ, free_ownZ, freeM_boxF, d_a, List.length_map, evIdx_sl, Int.toNat_natCast, h2, Option.map_some, Fld.d, take5, len5, f5, ownZ_cons, n33, Nat.reduceMul, Int.reduceToNat, cast3, len3, len2, Int.reduceLE, Int.reduceLT, and_self, if_true, Nat.reduceLeDiff, Nat.reduceLT, Nat.reduceAdd, Int.reduceAdd, Int.reduceSub, Int.reduceNeg, ↓reduceIte, Nat.reduceEqDiff, reduceCtorEq, Int.reduceBEq, Int.reduceBNe, Nat.reduceBEq])
      · have f2 : ((x.num : Int) != 1) = true := by rw [hnum]; rfl
        have f3 : ((x.num : Int) != 2) = false := by rw [hnum]; rfl
        have f5 : ((x.num : Int) == 1) = false := by rw [hnum]; rfl
        rw [if_neg (by omega)]
        have q0 := fun K => inner0 fs ok ps es x part hq 0 0 0 2 i fs.length (by omega) K
        have q1 := fun K => inner1 fs (ok && decide (uM part 1 ≤ 262144)) ps es x part hq (min (uM part 1) 262144) 0 0 2 i fs.length (by omega) K
        have b1 : min (uM part 1) 262144 ≤ 262144 := Nat.min_le_right _ _
        have b2 : min (uM part 2) 262144 ≤ 262144 := Nat.min_le_right _ _
        have qq := fun K => (q0 K).trans (q1 K)
        clear q0 q1
        have ih := ih (ok && decide (uM part 1 ≤ 262144) && decide (uM part 2 ≤ 262144)) ps (es ++ [(min (uM part 1) 262144, min (uM part 2) 262144)])
          (.ab x (min (uM part 1) 262144, min (uM part 2) 262144, 0)) (by omega) (by simp; omega)
        generalize (ok && decide (uM part 1 ≤ 262144) && decide (uM part 2 ≤ 262144)) = ok' at *
        generalize min (uM part 1) 262144 = a1 at *
        generalize min (uM part 2) 262144 = a2 at *
        rw [← ih]
        clear ih
        unfold baseM
        rw [ownE]
        generalize ([Kf.c (r_sfoot_Decode_31.seq (.cond (.t 122) (r_sfoot_Decode_32.seq .ret) (r_sfoot_Decode_33.seq .ret)))] : List Kf) = K at *
        cases t <;> (
          simp (disch := first | omega | (simp only [go_sem, List.length_take, List.length_drop] <;> omega) | assumption | decide | fail) only [go_sem, X_sfoot_Decode, Left.m, boxF, box3, List.cons_append, List.nil_append, home_ownZ, free_ownZ, freeM_boxF, d_a, List.length_map, evIdx_sl, Int.toNat_natCast, h2, Option.map_some, Fld.d, take5, len5, f1, f2, f3, hP, f5, Nat.reduceLeDiff, Nat.reduceLT, Nat.reduceAdd, Int.reduceAdd, Int.reduceSub, Int.reduceNeg, ↓reduceIte, Nat.reduceEqDiff, reduceCtorEq, Int.reduceBEq, Int.reduceBNe, Nat.reduceBEq]
          refine (qq _).trans ?_
          cases es with
          | nil =>
            rw [go_loop]
            simp (disch := first | omega | (simp only [go_sem, List.length_take, List.length_drop] <;> omega) | assumption | decide | fail) only [go_sem, X_sfoot_Decode, Left.m, boxF, box3, List.cons_append, List.nil_append, home_ownZ, free_ownZ, freeM_boxF, d_a, List.length_map, evIdx_sl, Int.toNat_natCast, h2, Option.map_some, Fld.d, take5, len5, f5, List.map_nil, ownZ_nil, n22, Nat.reduceMul, Int.reduceToNat, cast3, len3, len2, Int.reduceLE, Int.reduceLT, and_self, if_true, Nat.reduceLeDiff, Nat.reduceLT, Nat.reduceAdd, Int.reduceAdd, Int.reduceSub, Int.reduceNeg, ↓reduceIte, Nat.reduceEqDiff, reduceCtorEq, Int.reduceBEq, Int.reduceBNe, Nat.reduceBEq]
          | cons y es =>
            simp only [List.length_cons] at he
            unfold baseM
            rw [List.map_cons]
            generalize enD y = w
            rw [go_loop]
            simp (disch := first | omega | (simp only [go_sem, List.length_take, List.length_drop] <;> omega) | assumption | decide | fail) only [go_sem, X_sfoot_Decode, Left.m, boxF, box3, List.cons_append, List.nil_append, home_ownZ, free_ownZ, freeM_boxF, d_a, List.length_map, evIdx_sl, Int.toNat_natCast, h2, Option.map_some, Fld.d, take5, len5, f5, ownZ_cons, n22, Nat.reduceMul, Int.reduceToNat, cast3, len3, len2, Int.reduceLE, Int.reduceLT, and_self, if_true, Nat.reduceLeDiff, Nat.reduceLT, Nat.reduceAdd, Int.reduceAdd, Int.reduceSub, Int.reduceNeg, ↓reduceIte, Nat.reduceEqDiff, reduceCtorEq, Int.reduceBEq, Int.reduceBNe, Nat.reduceBEq])
end Go.Proofs.YtpflgebgmhnipaaGreatDoor
