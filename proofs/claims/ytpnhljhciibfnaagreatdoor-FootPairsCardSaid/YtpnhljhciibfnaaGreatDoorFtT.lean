/- A footer of a tree of one column, with user's data: what the program's writer computes. -/
import Derived.Test.YtpnhljhciibfnaaGreatDoorFtS
import Derived.Test.YtpnhljhciibfnaaGreatDoorFtE
namespace Go.Proofs.YtpnhljhciibfnaaGreatDoor
open Go Go.Ev
set_option linter.unusedVariables false
set_option linter.unusedSimpArgs false
set_option maxHeartbeats 4000000
set_option maxRecDepth 100000

abbrev Pr := List UInt8 × List UInt8
def prD (p : Pr) : D := .agg [.str p.1, .sl (p.2.map byteD)]
def prU (p : Pr) : List Put := [.b 1 p.1, .b 2 p.2]
def prP (p : Pr) : Put := .b 5 (putB (prU p))
def prOk (p : Pr) : Prop := p.1.length ≤ 300 ∧ p.2.length ≤ 1000
theorem prU_len {p : Pr} (h : prOk p) : (putB (prU p)).length ≤ 1340 := by
  obtain ⟨h1, h2⟩ := h
  have a := bytesF_len 1 p.1
  have b := bytesF_len 2 p.2
  simp only [putB, prU, Put.bytes, List.map_cons, List.map_nil, List.flatten_cons, List.flatten_nil, List.append_nil, List.length_append]
  omega
theorem prP_len {p : Pr} (h : prOk p) : (prP p).bytes.length ≤ 1360 := by
  have a := bytesF_len 5 (putB (prU p))
  have b := prU_len h
  show (bytesF 5 (putB (prU p))).length ≤ _
  omega
theorem check_one : evL cfg n_types_Check 0 [.d typD] [] = some (.d (.int .i64 0), []) := evL_of_evFn (n := 20) (by kernel_rfl)
theorem in_000 : evL cfg n_foot_in 0 [.d (.sl [i0, i0, i0])] [] = some (.d (.bool (true)), []) := evL_of_evFn (n := 20) (by kernel_rfl)
theorem putStats_one : evL cfg n_foot_PutStats 0 [.d colD, .d statD0] [] = some (.d (.sl ((stat0).map byteD)), []) := evL_of_evFn (n := 20) (by kernel_rfl)
def fD0 (l : List Pr) : D := .agg [i0, .sl [], .int .i64 12, .sl [], .sl [], i0, i0, i0, .sl (l.map prD), i0, .sl [statD0], i0]
theorem foot_right_ans (l : List Pr) (hl : l.length ≤ 100) : evL cfg n_foot_right 0 [.d (fD0 l), .d (.int .i64 (1))] [] = some (.d (.bool (decide ((l.length : Int) ≤ 32))), []) := by
  rw [o_foot_right]
  unfold fD0
  have h := in_000
  simp (disch := first | omega | (simp only [go_sem, List.length_take, List.length_drop] <;> omega) | assumption | decide | fail) only [go_sem, X_foot_right, c_foot_right, len12, Nat.reduceLeDiff, Nat.reduceLT, Nat.reduceAdd, Int.reduceAdd, Int.reduceSub, Int.reduceNeg, ↓reduceIte, Nat.reduceEqDiff, reduceCtorEq, Int.reduceBEq, Int.reduceBNe, Nat.reduceBEq]
  conv => lhs; rw [go_loop]
  rcases Bool.eq_false_or_eq_true (decide ((l.length : Int) ≤ 32)) with d | d <;>
  simp (disch := first | omega | (simp only [go_sem, List.length_take, List.length_drop] <;> omega) | assumption | decide | fail) only [go_sem, X_foot_right, h, len12, List.length_map, d, Int.reduceLE, Int.reduceLT, decide_false, decide_true, Nat.reduceLeDiff, Nat.reduceLT, Nat.reduceAdd, Int.reduceAdd, Int.reduceSub, Int.reduceNeg, ↓reduceIte, Nat.reduceEqDiff, reduceCtorEq, Int.reduceBEq, Int.reduceBNe, Nat.reduceBEq] <;> rfl
def boxQ (k : Nat) : Option Pr → List (Cel × V)
  | none => []
  | some p => [(⟨0, k, 0⟩, .d (.str (p.1))), (⟨0, k, 1⟩, .d (.sl ((p.2).map byteD)))]
theorem boxQ_none (k : Nat) : boxQ k none = [] := rfl
theorem freeM_boxQ (k : Nat) (o : Option Pr) : freeM 0 k (boxQ k o) = [] := by
  cases o with
  | none => rfl
  | some f => simp only [boxQ, freeM_cons, freeM_nil, true_and, if_true]
theorem settleM_boxQ (k : Nat) (o : Option Pr) : settleM 0 (boxQ k o) = boxQ k o := by cases o <;> rfl
theorem tk2 (a b : D) : List.take 2 [a, b] = [a, b] := rfl
theorem tk15 (a b c d e f g h i j k l m n o : D) : List.take 15 [a, b, c, d, e, f, g, h, i, j, k, l, m, n, o] = [a, b, c, d, e, f, g, h, i, j, k, l, m, n, o] := rfl
abbrev b12 (l : List Pr) : List (Cel × V) := [(⟨0, 1, 0⟩, .d i0), (⟨0, 1, 1⟩, .d (.sl [])), (⟨0, 1, 2⟩, .d (.int .i64 (12))), (⟨0, 1, 3⟩, .d (.sl [])), (⟨0, 1, 4⟩, .d (.sl [])), (⟨0, 1, 5⟩, .d i0), (⟨0, 1, 6⟩, .d i0), (⟨0, 1, 7⟩, .d i0), (⟨0, 1, 8⟩, .d (.sl (l.map prD))), (⟨0, 1, 9⟩, .d i0), (⟨0, 1, 10⟩, .d (.sl [statD0])), (⟨0, 1, 11⟩, .d i0)]
abbrev eqE (l : List Pr) (i : Nat) (b : List UInt8) : List (Nat × V) := [(1, .ref 0 1 0), (5, .d (.sl [colD])), (6, .d (.sl ((b).map byteD))), (66, .d (.sl (l.map prD))), (67, .d (.int .i64 ((l.length : Int)))), (68, .d (.int .i64 ((i : Int))))]
theorem eq_step (l : List Pr) (i : Nat) (p : Pr) (hi : l[i]? = some p) (hlt : i < l.length) (hn : l.length ≤ 100) (ok : prOk p) (b : List UInt8) (hb : b.length ≤ 400000) (o : Option Pr) (K : List Kf) :
    go X_foot_Encode (.c (.loop b_foot_Encode_27) :: K) ⟨eqE l i b, b12 l ++ boxQ 13 o⟩ = go X_foot_Encode (.c (.loop b_foot_Encode_27) :: K) ⟨eqE l (i + 1) (b ++ (prP p).bytes), b12 l ++ boxQ 13 (some p)⟩ := by
  have d_a : decide ((i : Int) < l.length) = true := by simp <;> omega
  have hU := prU_len ok
  obtain ⟨h1, h2⟩ := ok
  have q1 := bytesF_len 1 p.1
  have g1 : evL cfg n_pb_PutBytes 0 [.d (.sl ((([] : List UInt8)).map byteD)), .d (.int .i64 (1)), .d (.sl ((p.1).map byteD))] [] = some (.own false 1 (([] ++ bytesF 1 p.1).map byteD), []) := pb_PutBytes_ans (num := 1) (by simp) (by omega) (by omega) (by omega)
  have g2 : evL cfg n_pb_PutBytes 0 [.d (.sl ((bytesF 1 p.1).map byteD)), .d (.int .i64 (2)), .d (.sl ((p.2).map byteD))] [] = some (.own false 1 ((putB (prU p)).map byteD), []) := by
    have := pb_PutBytes_ans (b := bytesF 1 p.1) (v := p.2) (num := 2) (by omega) (by omega) (by omega) (by omega)
    rw [show putB (prU p) = bytesF 1 p.1 ++ bytesF 2 p.2 by simp [putB, prU, Put.bytes]]
    exact this
  have g3 : evL cfg n_pb_PutBytes 0 [.d (.sl ((b).map byteD)), .d (.int .i64 (5)), .d (.sl ((putB (prU p)).map byteD))] [] = some (.own false 1 ((b ++ (prP p).bytes).map byteD), []) := pb_PutBytes_ans (num := 5) (by omega) (by omega) (by omega) (by omega)
  simp only [List.map_nil, List.nil_append] at g1
  have hS := settleM_boxQ 13 o
  have hF := freeM_boxQ 13 o
  generalize boxQ 13 o = T at *
  simp only [eqE, b12, boxQ, List.cons_append, List.nil_append]
  obtain ⟨k, v⟩ := p
  simp only at *
  generalize putB (prU (k, v)) = q at *
  generalize (prP (k, v)).bytes = q2 at *
  conv => lhs; rw [go_loop]
  simp (disch := first | omega | (simp only [go_sem, List.length_take, List.length_drop] <;> omega) | assumption | decide | fail) only [go_sem, X_foot_Encode, d_a, hS, hF, hi, prD, g1, g2, g3, len2', tk2, Int.natCast_add, List.getElem?_map, Option.map_some, Nat.reduceLeDiff, Nat.reduceLT, Nat.reduceAdd, Int.reduceAdd, Int.reduceSub, Int.reduceNeg, ↓reduceIte, Nat.reduceEqDiff, reduceCtorEq, Int.reduceBEq, Int.reduceBNe, Nat.reduceBEq]
theorem eq_loop (l : List Pr) (hn : l.length ≤ 100) (ok : ∀ p ∈ l, prOk p) (K : List Kf) : ∀ (r : List Pr) (i : Nat) (b : List UInt8) (o : Option Pr), l.drop i = r → i ≤ l.length → b.length + 1360 * r.length ≤ 400000 →
    ∃ o', go X_foot_Encode (.c (.loop b_foot_Encode_27) :: .b 4 :: K) ⟨eqE l i b, b12 l ++ boxQ 13 o⟩ = go X_foot_Encode K ⟨eqE l l.length (b ++ putB (r.map prP)) ++ [(69, .d (.bool (false)))], b12 l ++ boxQ 13 o'⟩
  | [], i, b, o, hr, hi, hb => by
    have := dropEnd hr
    have : i = l.length := by omega
    subst this
    refine ⟨o, ?_⟩
    have d_a : decide ((l.length : Int) < l.length) = false := by simp <;> omega
    have hS := settleM_boxQ 13 o
    rw [go_loop, List.map_nil, show putB [] = [] from rfl, List.append_nil]
    generalize boxQ 13 o = T at *
    simp only [List.cons_append, List.nil_append]
    simp (disch := first | omega | (simp only [go_sem, List.length_take, List.length_drop] <;> omega) | assumption | decide | fail) only [go_sem, X_foot_Encode, d_a, hS, Nat.reduceLeDiff, Nat.reduceLT, Nat.reduceAdd, Int.reduceAdd, Int.reduceSub, Int.reduceNeg, ↓reduceIte, Nat.reduceEqDiff, reduceCtorEq, Int.reduceBEq, Int.reduceBNe, Nat.reduceBEq]
  | p :: r, i, b, o, hr, hi, hb => by
    obtain ⟨h1, h2, h3⟩ := dropAt hr
    have hp := ok p (List.mem_of_getElem? h2)
    have q := prP_len hp
    rw [List.map_cons, putB_cons, ← List.append_assoc]
    simp only [List.length_cons] at hb
    obtain ⟨o', ih⟩ := eq_loop l hn ok K r (i + 1) (b ++ (prP p).bytes) (some p) h3 h1 (by rw [List.length_append]; omega)
    exact ⟨o', Eq.trans (eq_step l i p h2 h1 hn hp b (by omega) o _) ih⟩
def prsP (l : List Pr) : List Put := [.u 1 3, .u 2 0, .b 4 (putB [.u 1 12])] ++ (l.map prP ++ [.u 6 0, .b 7 stat0, .u 8 0])
theorem nd0_flat : evL cfg n_types_Flatten 0 [.d typD] [] = some (.d (.sl ([(nd0, .int .i64 (-1), .int .i64 1)].map nodP)), []) := evL_of_evFn (n := 20) (by kernel_rfl)
theorem foot_PutTypes_one (b : List UInt8) (hb : b.length ≤ 400000) : evL cfg n_foot_PutTypes 0 [.d (.sl ((b).map byteD)), .d typD] [] = some (.d (.sl ((b ++ bytesF 4 (uintF 1 12)).map byteD)), []) := by
  have h := foot_PutTypes_ans b (.int .i64 12) (.sl []) (.sl []) i0 i0 i0 rfl rfl rfl rfl rfl rfl rfl rfl rfl rfl rfl rfl [(nd0, .int .i64 (-1), .int .i64 1)] nd0_flat (by decide) (fun n hn => by
    rw [List.mem_singleton] at hn; subst hn; exact nd0_ok) (by
    rw [show [(nd0, D.int .i64 (-1), D.int .i64 1)].map Prod.fst = [nd0] from rfl, ndB0, List.length_append]
    have : (bytesF 4 (uintF 1 12)).length ≤ 100 := by decide
    omega)
  rw [show [(nd0, D.int .i64 (-1), D.int .i64 1)].map Prod.fst = [nd0] from rfl, ndB0] at h
  exact h
theorem enc_many (l : List Pr) (hl : l.length ≤ 100) (hm : l.length > 32) : evL cfg n_foot_Encode 0 [.d (fD0 l)] [] = some (.d (.tup [.sl [], .int .i64 1]), []) := by
  rw [o_foot_Encode]
  have h0 := foot_right_ans l hl
  have d_a : decide ((l.length : Int) ≤ 32) = false := by simp <;> omega
  rw [d_a] at h0
  have h1 := check_one
  have h2 := flat_one
  unfold fD0 at *
  simp (disch := first | omega | (simp only [go_sem, List.length_take, List.length_drop] <;> omega) | assumption | decide | fail) only [go_sem, X_foot_Encode, c_foot_Encode, len12, len6, h0, h1, h2, Nat.reduceLeDiff, Nat.reduceLT, Nat.reduceAdd, Int.reduceAdd, Int.reduceSub, Int.reduceNeg, ↓reduceIte, Nat.reduceEqDiff, reduceCtorEq, Int.reduceBEq, Int.reduceBNe, Nat.reduceBEq]
theorem enc_few (l : List Pr) (hl : l.length ≤ 32) (ok : ∀ p ∈ l, prOk p) : evL cfg n_foot_Encode 0 [.d (fD0 l)] [] = some (.d (.tup [.sl ((putB (prsP l)).map byteD), .int .i64 0]), []) := by
  rw [o_foot_Encode]
  have h0 := foot_right_ans l (by omega)
  have d_a : decide ((l.length : Int) ≤ 32) = true := by simp <;> omega
  rw [d_a] at h0
  have h1 := check_one
  have h2 := flat_one
  have g1 : evL cfg n_pb_PutUint 0 [.d (.sl ((([] : List UInt8)).map byteD)), .d (.int .i64 (1)), .d (.int .u64 (3))] [] = some (.d (.sl (([] ++ uintF 1 3).map byteD)), []) := pb_PutUint_ans (num := 1) (v := 3) (by simp) (by omega) (by omega) (by omega)
  have g2 : evL cfg n_pb_PutUint 0 [.d (.sl ((uintF 1 3).map byteD)), .d (.int .i64 (2)), .d (.int .u64 (0))] [] = some (.d (.sl ((uintF 1 3 ++ uintF 2 0).map byteD)), []) := pb_PutUint_ans (num := 2) (v := 0) (by decide) (by omega) (by omega) (by omega)
  have g3 := foot_PutTypes_one (uintF 1 3 ++ uintF 2 0) (by decide)
  have q0 : (uintF 1 3 ++ uintF 2 0 ++ bytesF 4 (uintF 1 12)).length ≤ 100 := by decide
  obtain ⟨o, g4⟩ := eq_loop l (by omega) ok [.c (r_foot_Encode_28.seq ((r_foot_Encode_29.seq (.block 6 (.loop b_foot_Encode_34))).seq (r_foot_Encode_35.seq (r_foot_Encode_36.seq (.cond (.t 111) (r_foot_Encode_37.seq .ret) (r_foot_Encode_38.seq .ret))))))] l 0 (uintF 1 3 ++ uintF 2 0 ++ bytesF 4 (uintF 1 12)) none rfl (Nat.zero_le _) (by omega)
  rw [boxQ_none] at g4
  have hlen : (putB (l.map prP)).length ≤ 1360 * l.length := by
    have := putB_len (l.map prP) 1360 (fun x hx => by
      obtain ⟨p, hp, rfl⟩ := List.mem_map.1 hx
      exact prP_len (ok p hp))
    simpa using this
  have e : putB (prsP l) = uintF 1 3 ++ uintF 2 0 ++ bytesF 4 (uintF 1 12) ++ putB (l.map prP) ++ uintF 6 0 ++ bytesF 7 stat0 ++ uintF 8 0 := by
    unfold prsP
    rw [putB_append, putB_append]
    simp [putB, Put.bytes]
  have q1 : (uintF 1 3 ++ uintF 2 0 ++ bytesF 4 (uintF 1 12) ++ putB (l.map prP)).length ≤ 60000 := by rw [List.length_append]; omega
  rw [e]
  generalize uintF 1 3 ++ uintF 2 0 ++ bytesF 4 (uintF 1 12) ++ putB (l.map prP) = x at *
  have g5 : evL cfg n_pb_PutUint 0 [.d (.sl ((x).map byteD)), .d (.int .i64 (6)), .d (.int .u64 (0))] [] = some (.d (.sl ((x ++ uintF 6 0).map byteD)), []) := pb_PutUint_ans (num := 6) (v := 0) (by omega) (by omega) (by omega) (by omega)
  have q2 : (uintF 6 0).length ≤ 10 := by decide
  have q3 : (bytesF 7 stat0).length ≤ 10 := by decide
  have q4 : (uintF 8 0).length ≤ 10 := by decide
  have g6 := putStats_one
  have g7 : evL cfg n_pb_PutBytes 0 [.d (.sl ((x ++ uintF 6 0).map byteD)), .d (.int .i64 (7)), .d (.sl ((stat0).map byteD))] [] = some (.own false 1 ((x ++ uintF 6 0 ++ bytesF 7 stat0).map byteD), []) := pb_PutBytes_ans (num := 7) (by rw [List.length_append]; omega) (by omega) (by omega) (by decide)
  have g8 : evL cfg n_pb_PutUint 0 [.d (.sl ((x ++ uintF 6 0 ++ bytesF 7 stat0).map byteD)), .d (.int .i64 (8)), .d (.int .u64 (0))] [] = some (.d (.sl ((x ++ uintF 6 0 ++ bytesF 7 stat0 ++ uintF 8 0).map byteD)), []) := pb_PutUint_ans (num := 8) (v := 0) (by simp only [List.length_append]; omega) (by omega) (by omega) (by omega)
  have q5 : (x ++ uintF 6 0 ++ bytesF 7 stat0 ++ uintF 8 0).length ≤ 65536 := by simp only [List.length_append]; omega
  generalize stat0 = st at *
  generalize x ++ uintF 6 0 ++ bytesF 7 st ++ uintF 8 0 = x4 at *
  generalize x ++ uintF 6 0 ++ bytesF 7 st = x3 at *
  generalize x ++ uintF 6 0 = x2 at *
  have d_c : decide ((x4.length : Int) > 65536) = false := by simp <;> omega
  simp only [List.map_nil, List.nil_append] at g1
  simp only [eqE, b12, List.cons_append, List.nil_append, List.append_nil] at g4
  generalize bytesF 4 (uintF 1 12) = y3 at *
  generalize uintF 1 3 ++ uintF 2 0 = y2 at *
  generalize uintF 1 3 = y1 at *
  unfold fD0 at *
  simp (disch := first | omega | (simp only [go_sem, List.length_take, List.length_drop] <;> omega) | assumption | decide | fail) only [go_sem, X_foot_Encode, c_foot_Encode, len12, len6, h0, h1, h2, g1, g2, Nat.reduceLeDiff, Nat.reduceLT, Nat.reduceAdd, Int.reduceAdd, Int.reduceSub, Int.reduceNeg, ↓reduceIte, Nat.reduceEqDiff, reduceCtorEq, Int.reduceBEq, Int.reduceBNe, Nat.reduceBEq]
  conv => lhs; rw [go_loop]
  simp (disch := first | omega | (simp only [go_sem, List.length_take, List.length_drop] <;> omega) | assumption | decide | fail) only [go_sem, X_foot_Encode, len6, Int.reduceLT, decide_false, g3, Nat.reduceLeDiff, Nat.reduceLT, Nat.reduceAdd, Int.reduceAdd, Int.reduceSub, Int.reduceNeg, ↓reduceIte, Nat.reduceEqDiff, reduceCtorEq, Int.reduceBEq, Int.reduceBNe, Nat.reduceBEq]
  refine g4.trans ?_
  clear g4
  cases o with
  | none =>
    simp only [boxQ]
    simp (disch := first | omega | (simp only [go_sem, List.length_take, List.length_drop] <;> omega) | assumption | decide | fail) only [go_sem, X_foot_Encode, g5, Nat.reduceLeDiff, Nat.reduceLT, Nat.reduceAdd, Int.reduceAdd, Int.reduceSub, Int.reduceNeg, ↓reduceIte, Nat.reduceEqDiff, reduceCtorEq, Int.reduceBEq, Int.reduceBNe, Nat.reduceBEq]
    conv => lhs; rw [go_loop]
    simp (disch := first | omega | (simp only [go_sem, List.length_take, List.length_drop] <;> omega) | assumption | decide | fail) only [go_sem, X_foot_Encode, Int.reduceLT, decide_true, len15, len8, tk15, tk8, g6, g7, Nat.reduceLeDiff, Nat.reduceLT, Nat.reduceAdd, Int.reduceAdd, Int.reduceSub, Int.reduceNeg, ↓reduceIte, Nat.reduceEqDiff, reduceCtorEq, Int.reduceBEq, Int.reduceBNe, Nat.reduceBEq]
    conv => lhs; rw [go_loop]
    simp (disch := first | omega | (simp only [go_sem, List.length_take, List.length_drop] <;> omega) | assumption | decide | fail) only [go_sem, X_foot_Encode, Int.reduceLT, decide_false, g8, d_c, Nat.reduceLeDiff, Nat.reduceLT, Nat.reduceAdd, Int.reduceAdd, Int.reduceSub, Int.reduceNeg, ↓reduceIte, Nat.reduceEqDiff, reduceCtorEq, Int.reduceBEq, Int.reduceBNe, Nat.reduceBEq]
  | some p =>
    simp only [boxQ]
    simp (disch := first | omega | (simp only [go_sem, List.length_take, List.length_drop] <;> omega) | assumption | decide | fail) only [go_sem, X_foot_Encode, g5, Nat.reduceLeDiff, Nat.reduceLT, Nat.reduceAdd, Int.reduceAdd, Int.reduceSub, Int.reduceNeg, ↓reduceIte, Nat.reduceEqDiff, reduceCtorEq, Int.reduceBEq, Int.reduceBNe, Nat.reduceBEq]
    conv => lhs; rw [go_loop]
    simp (disch := first | omega | (simp only [go_sem, List.length_take, List.length_drop] <;> omega) | assumption | decide | fail) only [go_sem, X_foot_Encode, Int.reduceLT, decide_true, len15, len8, tk15, tk8, g6, g7, Nat.reduceLeDiff, Nat.reduceLT, Nat.reduceAdd, Int.reduceAdd, Int.reduceSub, Int.reduceNeg, ↓reduceIte, Nat.reduceEqDiff, reduceCtorEq, Int.reduceBEq, Int.reduceBNe, Nat.reduceBEq]
    conv => lhs; rw [go_loop]
    simp (disch := first | omega | (simp only [go_sem, List.length_take, List.length_drop] <;> omega) | assumption | decide | fail) only [go_sem, X_foot_Encode, Int.reduceLT, decide_false, g8, d_c, Nat.reduceLeDiff, Nat.reduceLT, Nat.reduceAdd, Int.reduceAdd, Int.reduceSub, Int.reduceNeg, ↓reduceIte, Nat.reduceEqDiff, reduceCtorEq, Int.reduceBEq, Int.reduceBNe, Nat.reduceBEq]
end Go.Proofs.YtpnhljhciibfnaaGreatDoor
