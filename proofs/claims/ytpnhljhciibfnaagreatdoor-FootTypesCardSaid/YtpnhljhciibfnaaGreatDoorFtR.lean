/- A tree's columns as bytes: what the program's writer computes. -/
import Derived.Test.YtpnhljhciibfnaaGreatDoorFtQ
namespace Go.Proofs.YtpnhljhciibfnaaGreatDoor
open Go Go.Ev
set_option linter.unusedVariables false
set_option linter.unusedSimpArgs false
set_option maxHeartbeats 4000000
set_option maxRecDepth 100000

def nodP (n : Nd × D × D) : D := .agg [.int .i64 (n.1.kind : Int), intsD n.1.kids, .sl (n.1.names.map D.str), .int .i64 (n.1.len : Int), .int .i64 (n.1.prec : Int), .int .i64 (n.1.scale : Int), n.2.1, n.2.2]
def accV (acc : List UInt8) : V := if acc.isEmpty then .d .nilS else .d (.sl ((acc).map byteD))
theorem accV_nil : accV [] = .d .nilS := rfl
theorem accV_ne {acc : List UInt8} (h : acc ≠ []) : accV acc = .d (.sl ((acc).map byteD)) := by
  cases acc with
  | nil => exact absurd rfl h
  | cons y r => rfl
theorem home_accV (acc : List UInt8) : (accV acc).home 0 = accV acc := by cases acc <;> rfl
abbrev pkE (ns : List (Nd × D × D)) (i : Nat) (kids : List Nat) (b x acc : List UInt8) (j : Nat) : List (Nat × V) :=
  [(5, .d (.sl ((b).map byteD))), (7, .ref 0 7 0), (8, .d (.sl ((x).map byteD))), (9, accV acc), (19, .d (.sl (ns.map nodP))), (20, .d (.int .i64 ((ns.length : Int)))), (21, .d (.int .i64 ((i : Int)))), (30, .d (.sl (kids.map intN))), (31, .d (.int .i64 ((kids.length : Int)))), (32, .d (.int .i64 ((j : Int))))]
theorem pk_loop (ns : List (Nd × D × D)) (i : Nat) (kids : List Nat) (hk : ∀ k ∈ kids, k ≤ 1000000) (hl : kids.length ≤ 1000) (b x : List UInt8) (M : List (Cel × V)) (hM : settleM 0 M = M) (K : List Kf) : ∀ (r : List Nat) (j : Nat) (acc : List UInt8), kids.drop j = r → j ≤ kids.length → acc.length ≤ 10 * j →
    go X_foot_PutTypes (.c (.loop b_foot_PutTypes_12) :: .b 2 :: K) ⟨pkE ns i kids b x acc j, M⟩ = go X_foot_PutTypes K ⟨pkE ns i kids b x (acc ++ kidB r) kids.length ++ [(33, .d (.bool (false)))], M⟩
  | [], j, acc, hr, hj, ha => by
    have := dropEnd hr
    have : j = kids.length := by omega
    subst this
    have d_a : decide ((kids.length : Int) < kids.length) = false := by simp <;> omega
    rw [go_loop, show kidB [] = [] from rfl, List.append_nil]
    simp only [List.cons_append, List.nil_append]
    simp (disch := first | omega | (simp only [go_sem, List.length_take, List.length_drop] <;> omega) | assumption | decide | fail) only [go_sem, X_foot_PutTypes, d_a, home_accV, hM, Nat.reduceLeDiff, Nat.reduceLT, Nat.reduceAdd, Int.reduceAdd, Int.reduceSub, Int.reduceNeg, ↓reduceIte, Nat.reduceEqDiff, reduceCtorEq, Int.reduceBEq, Int.reduceBNe, Nat.reduceBEq]
  | k :: r, j, acc, hr, hj, ha => by
    obtain ⟨h1, h2, h3⟩ := dropAt hr
    have hm := hk k (List.mem_of_getElem? h2)
    have hlt : j < kids.length := h1
    have hv := varB_len 10 k
    have d_a : decide ((j : Int) < kids.length) = true := by simp <;> omega
    have ih := pk_loop ns i kids hk hl b x M hM K r (j + 1) (acc ++ varB 10 k) h3 h1 (by rw [List.length_append]; omega)
    rw [kidB_cons, ← List.append_assoc]
    refine Eq.trans ?_ ih
    simp only [pkE]
    rw [accV_ne (acc := acc ++ varB 10 k) (by simp [varB_ne])]
    conv => lhs; rw [go_loop]
    have hp := nums_PutVar_ans (b := acc) (u := k) (by omega) (by omega)
    by_cases hz : acc = []
    · subst hz
      simp only [List.map_nil] at hp
      simp (disch := first | omega | (simp only [go_sem, List.length_take, List.length_drop] <;> omega) | assumption | decide | fail) only [go_sem, X_foot_PutTypes, d_a, hM, h2, intN, accV_nil, hp, List.nil_append, Int.natCast_add, Nat.reduceLeDiff, Nat.reduceLT, Nat.reduceAdd, Int.reduceAdd, Int.reduceSub, Int.reduceNeg, ↓reduceIte, Nat.reduceEqDiff, reduceCtorEq, Int.reduceBEq, Int.reduceBNe, Nat.reduceBEq]
    · rw [accV_ne hz]
      simp (disch := first | omega | (simp only [go_sem, List.length_take, List.length_drop] <;> omega) | assumption | decide | fail) only [go_sem, X_foot_PutTypes, d_a, hM, h2, intN, hp, Int.natCast_add, Nat.reduceLeDiff, Nat.reduceLT, Nat.reduceAdd, Int.reduceAdd, Int.reduceSub, Int.reduceNeg, ↓reduceIte, Nat.reduceEqDiff, reduceCtorEq, Int.reduceBEq, Int.reduceBNe, Nat.reduceBEq]
abbrev pnE (ns : List (Nd × D × D)) (i : Nat) (names : List (List UInt8)) (b x : List UInt8) (j : Nat) : List (Nat × V) :=
  [(5, .d (.sl ((b).map byteD))), (7, .ref 0 7 0), (8, .d (.sl ((x).map byteD))), (19, .d (.sl (ns.map nodP))), (20, .d (.int .i64 ((ns.length : Int)))), (21, .d (.int .i64 ((i : Int)))), (48, .d (.sl (names.map D.str))), (49, .d (.int .i64 ((names.length : Int)))), (50, .d (.int .i64 ((j : Int))))]
theorem pn_loop (ns : List (Nd × D × D)) (i : Nat) (names : List (List UInt8)) (hl : names.length ≤ 1000) (b : List UInt8) (M : List (Cel × V)) (hM : settleM 0 M = M) (K : List Kf) : ∀ (r : List (List UInt8)) (j : Nat) (x : List UInt8), names.drop j = r → j ≤ names.length → (x ++ namB r).length ≤ 300000 →
    go X_foot_PutTypes (.c (.loop b_foot_PutTypes_20) :: .b 4 :: K) ⟨pnE ns i names b x j, M⟩ = go X_foot_PutTypes K ⟨pnE ns i names b (x ++ namB r) names.length ++ [(51, .d (.bool (false)))], M⟩
  | [], j, x, hr, hj, hx => by
    have := dropEnd hr
    have : j = names.length := by omega
    subst this
    have d_a : decide ((names.length : Int) < names.length) = false := by simp <;> omega
    rw [go_loop, show namB [] = [] from rfl, List.append_nil]
    simp only [List.cons_append, List.nil_append]
    simp (disch := first | omega | (simp only [go_sem, List.length_take, List.length_drop] <;> omega) | assumption | decide | fail) only [go_sem, X_foot_PutTypes, d_a, hM, Nat.reduceLeDiff, Nat.reduceLT, Nat.reduceAdd, Int.reduceAdd, Int.reduceSub, Int.reduceNeg, ↓reduceIte, Nat.reduceEqDiff, reduceCtorEq, Int.reduceBEq, Int.reduceBNe, Nat.reduceBEq]
  | k :: r, j, x, hr, hj, hx => by
    obtain ⟨h1, h2, h3⟩ := dropAt hr
    have hlt : j < names.length := h1
    have d_a : decide ((j : Int) < names.length) = true := by simp <;> omega
    rw [namB_cons, ← List.append_assoc] at hx ⊢
    have ih := pn_loop ns i names hl b M hM K r (j + 1) (x ++ bytesF 3 k) h3 h1 hx
    refine Eq.trans ?_ ih
    have hx2 : x.length + k.length ≤ 300000 := by
      simp only [bytesF, List.length_append] at hx; omega
    simp only [pnE]
    conv => lhs; rw [go_loop]
    have hp : evL cfg n_pb_PutBytes 0 [.d (.sl ((x).map byteD)), .d (.int .i64 (3)), .d (.sl ((k).map byteD))] [] = some (.own false 1 ((x ++ bytesF 3 k).map byteD), []) := pb_PutBytes_ans (num := 3) (by omega) (by omega) (by omega) (by omega)
    simp (disch := first | omega | (simp only [go_sem, List.length_take, List.length_drop] <;> omega) | assumption | decide | fail) only [go_sem, X_foot_PutTypes, d_a, hM, h2, List.getElem?_map, Option.map_some, hp, Int.natCast_add, Nat.reduceLeDiff, Nat.reduceLT, Nat.reduceAdd, Int.reduceAdd, Int.reduceSub, Int.reduceNeg, ↓reduceIte, Nat.reduceEqDiff, reduceCtorEq, Int.reduceBEq, Int.reduceBNe, Nat.reduceBEq]
abbrev p3E (ns : List (Nd × D × D)) (i : Nat) (u v w : Nat) (b x : List UInt8) (j : Int) : List (Nat × V) :=
  [(5, .d (.sl ((b).map byteD))), (8, .d (.sl ((x).map byteD))), (19, .d (.sl (ns.map nodP))), (20, .d (.int .i64 ((ns.length : Int)))), (21, .d (.int .i64 ((i : Int)))), (65, .d (.sl [.int .i64 (u : Int), .int .i64 (v : Int), .int .i64 (w : Int)])), (66, .d (.int .i64 (3))), (67, .d (.int .i64 (j)))]
theorem p3_0 (ns : List (Nd × D × D)) (i : Nat) (u v w : Nat) (hv : u ≤ 1000000) (b x : List UInt8) (hx : x.length ≤ 400000) (M : List (Cel × V)) (hM : settleM 0 M = M) (K : List Kf) :
    go X_foot_PutTypes (.c (.loop b_foot_PutTypes_27) :: K) ⟨p3E ns i u v w b x 0, M⟩ = go X_foot_PutTypes (.c (.loop b_foot_PutTypes_27) :: K) ⟨p3E ns i u v w b (x ++ numB 4 u) 1, M⟩ := by
  simp only [p3E]
  conv => lhs; rw [go_loop]
  unfold numB
  by_cases hz : u = 0
  · rw [if_pos hz, List.append_nil]
    have e : ((u : Int) != 0) = false := by simp; omega
    simp (disch := first | omega | (simp only [go_sem, List.length_take, List.length_drop] <;> omega) | assumption | decide | fail) only [go_sem, X_foot_PutTypes, hM, Int.reduceLT, decide_true, e, Nat.reduceLeDiff, Nat.reduceLT, Nat.reduceAdd, Int.reduceAdd, Int.reduceSub, Int.reduceNeg, ↓reduceIte, Nat.reduceEqDiff, reduceCtorEq, Int.reduceBEq, Int.reduceBNe, Nat.reduceBEq]
  · rw [if_neg hz]
    have e : ((u : Int) != 0) = true := by simp; omega
    have hp : evL cfg n_pb_PutUint 0 [.d (.sl ((x).map byteD)), .d (.int .i64 (4)), .d (.int .u64 ((u : Int)))] [] = some (.d (.sl ((x ++ uintF 4 u).map byteD)), []) := pb_PutUint_ans (num := 4) (by omega) (by omega) (by omega) (by omega)
    simp (disch := first | omega | (simp only [go_sem, List.length_take, List.length_drop] <;> omega) | assumption | decide | fail) only [go_sem, X_foot_PutTypes, hM, Int.reduceLT, decide_true, e, hp, Nat.reduceLeDiff, Nat.reduceLT, Nat.reduceAdd, Int.reduceAdd, Int.reduceSub, Int.reduceNeg, ↓reduceIte, Nat.reduceEqDiff, reduceCtorEq, Int.reduceBEq, Int.reduceBNe, Nat.reduceBEq]
theorem p3_1 (ns : List (Nd × D × D)) (i : Nat) (u v w : Nat) (hv : v ≤ 1000000) (b x : List UInt8) (hx : x.length ≤ 400000) (M : List (Cel × V)) (hM : settleM 0 M = M) (K : List Kf) :
    go X_foot_PutTypes (.c (.loop b_foot_PutTypes_27) :: K) ⟨p3E ns i u v w b x 1, M⟩ = go X_foot_PutTypes (.c (.loop b_foot_PutTypes_27) :: K) ⟨p3E ns i u v w b (x ++ numB 5 v) 2, M⟩ := by
  simp only [p3E]
  conv => lhs; rw [go_loop]
  unfold numB
  by_cases hz : v = 0
  · rw [if_pos hz, List.append_nil]
    have e : ((v : Int) != 0) = false := by simp; omega
    simp (disch := first | omega | (simp only [go_sem, List.length_take, List.length_drop] <;> omega) | assumption | decide | fail) only [go_sem, X_foot_PutTypes, hM, Int.reduceLT, decide_true, e, Nat.reduceLeDiff, Nat.reduceLT, Nat.reduceAdd, Int.reduceAdd, Int.reduceSub, Int.reduceNeg, ↓reduceIte, Nat.reduceEqDiff, reduceCtorEq, Int.reduceBEq, Int.reduceBNe, Nat.reduceBEq]
  · rw [if_neg hz]
    have e : ((v : Int) != 0) = true := by simp; omega
    have hp : evL cfg n_pb_PutUint 0 [.d (.sl ((x).map byteD)), .d (.int .i64 (5)), .d (.int .u64 ((v : Int)))] [] = some (.d (.sl ((x ++ uintF 5 v).map byteD)), []) := pb_PutUint_ans (num := 5) (by omega) (by omega) (by omega) (by omega)
    simp (disch := first | omega | (simp only [go_sem, List.length_take, List.length_drop] <;> omega) | assumption | decide | fail) only [go_sem, X_foot_PutTypes, hM, Int.reduceLT, decide_true, e, hp, Nat.reduceLeDiff, Nat.reduceLT, Nat.reduceAdd, Int.reduceAdd, Int.reduceSub, Int.reduceNeg, ↓reduceIte, Nat.reduceEqDiff, reduceCtorEq, Int.reduceBEq, Int.reduceBNe, Nat.reduceBEq]
theorem p3_2 (ns : List (Nd × D × D)) (i : Nat) (u v w : Nat) (hv : w ≤ 1000000) (b x : List UInt8) (hx : x.length ≤ 400000) (M : List (Cel × V)) (hM : settleM 0 M = M) (K : List Kf) :
    go X_foot_PutTypes (.c (.loop b_foot_PutTypes_27) :: K) ⟨p3E ns i u v w b x 2, M⟩ = go X_foot_PutTypes (.c (.loop b_foot_PutTypes_27) :: K) ⟨p3E ns i u v w b (x ++ numB 6 w) 3, M⟩ := by
  simp only [p3E]
  conv => lhs; rw [go_loop]
  unfold numB
  by_cases hz : w = 0
  · rw [if_pos hz, List.append_nil]
    have e : ((w : Int) != 0) = false := by simp; omega
    simp (disch := first | omega | (simp only [go_sem, List.length_take, List.length_drop] <;> omega) | assumption | decide | fail) only [go_sem, X_foot_PutTypes, hM, Int.reduceLT, decide_true, evIdx_sl2, e, Nat.reduceLeDiff, Nat.reduceLT, Nat.reduceAdd, Int.reduceAdd, Int.reduceSub, Int.reduceNeg, ↓reduceIte, Nat.reduceEqDiff, reduceCtorEq, Int.reduceBEq, Int.reduceBNe, Nat.reduceBEq]
  · rw [if_neg hz]
    have e : ((w : Int) != 0) = true := by simp; omega
    have hp : evL cfg n_pb_PutUint 0 [.d (.sl ((x).map byteD)), .d (.int .i64 (6)), .d (.int .u64 ((w : Int)))] [] = some (.d (.sl ((x ++ uintF 6 w).map byteD)), []) := pb_PutUint_ans (num := 6) (by omega) (by omega) (by omega) (by omega)
    simp (disch := first | omega | (simp only [go_sem, List.length_take, List.length_drop] <;> omega) | assumption | decide | fail) only [go_sem, X_foot_PutTypes, hM, Int.reduceLT, decide_true, evIdx_sl2, e, hp, Nat.reduceLeDiff, Nat.reduceLT, Nat.reduceAdd, Int.reduceAdd, Int.reduceSub, Int.reduceNeg, ↓reduceIte, Nat.reduceEqDiff, reduceCtorEq, Int.reduceBEq, Int.reduceBNe, Nat.reduceBEq]
end Go.Proofs.YtpnhljhciibfnaaGreatDoor
