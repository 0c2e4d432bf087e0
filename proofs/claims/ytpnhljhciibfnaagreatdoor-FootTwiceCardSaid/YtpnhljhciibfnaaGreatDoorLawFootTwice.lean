/- Numbers that come again in a footer: the last ones count. -/
import Derived.Test.YtpnhljhciibfnaaGreatDoorTwA
import Derived.Test.YtpnhljhciibfnaaGreatDoorK
namespace Go.Proofs.YtpnhljhciibfnaaGreatDoor
open Go Go.Ev
set_option linter.unusedVariables false
set_option linter.unusedSimpArgs false
set_option maxHeartbeats 4000000

theorem putB_nil : putB [] = [] := rfl
theorem putB_one (x : Put) : putB [x] = x.bytes := by simp [putB]
theorem tw_loop (rows : List UInt8) (b : V) (hb : b.home 0 = b) (hn : rows.length ≤ 100) (K : List Kf) : ∀ (r : List UInt8) (i : Nat) (x : List UInt8), rows.drop i = r → i ≤ rows.length → x.length ≤ 40 + 100 * i →
    go X_ingotlaw21_FootTwice (.c (.loop b_ingotlaw21_FootTwice_10) :: .b 0 :: K) ⟨[(1, b), (2, .d (.sl ((rows).map byteD))), (7, .own false 1 (x.map byteD)), (8, .d (.int .i64 ((i : Int))))], []⟩ =
      go X_ingotlaw21_FootTwice K ⟨[(1, b), (2, .d (.sl ((rows).map byteD))), (7, .own false 1 ((x ++ putB (r.map rowP)).map byteD)), (8, .d (.int .i64 ((rows.length : Int)))), (26, .d (.bool (false)))], []⟩
  | [], i, x, hr, hi, hx => by
    have := dropEnd hr
    have : i = rows.length := by omega
    subst this
    have d_a : decide ((rows.length : Int) < rows.length) = false := by simp <;> omega
    rw [go_loop, List.map_nil, putB_nil, List.append_nil]
    simp (disch := first | omega | (simp only [go_sem, List.length_take, List.length_drop] <;> omega) | assumption | decide | fail) only [go_sem, X_ingotlaw21_FootTwice, d_a, hb, List.length_map, Nat.reduceLeDiff, Nat.reduceLT, Nat.reduceAdd, Int.reduceAdd, Int.reduceSub, Int.reduceNeg, ↓reduceIte, Nat.reduceEqDiff, reduceCtorEq, Int.reduceBEq, Int.reduceBNe, Nat.reduceBEq]
  | y :: r, i, x, hr, hi, hx => by
    obtain ⟨h1, h2, h3⟩ := dropAt hr
    have d_a : decide ((i : Int) < rows.length) = true := by simp <;> omega
    have hy := u8_lt y
    have q1 := bytesF_len 3 (putB (rowU y))
    have q2 := rowU_len y
    have hlt : i < rows.length := h1
    rw [List.map_cons, putB_cons, ← List.append_assoc]
    have ih := tw_loop rows b hb hn K r (i + 1) (x ++ (rowP y).bytes) h3 h1 (by rw [List.length_append]; show _ + (bytesF 3 (putB (rowU y))).length ≤ _; omega)
    refine Eq.trans ?_ ih
    have p1 : evL cfg n_ingotref3_PutUint 0 [.d .nilS, .d (.int .i64 (5)), .d (.int .u64 (9))] [] = some (.own false 1 ((uintF 5 9).map byteD), []) := ref3_PutUint_nil (num := 5) (v := 9) (by omega) (by omega) (by omega)
    have p2 : evL cfg n_ingotref3_PutUint 0 [.own false 1 ((uintF 5 9).map byteD), .d (.int .i64 (5)), .d (.int .u64 ((y.toNat : Int)))] [] = some (.own false 1 ((putB (rowU y)).map byteD), []) := by
      have := ref3_PutUint_own (b := uintF 5 9) (num := 5) (v := y.toNat) (by decide) (by omega) (by omega) (by omega)
      rw [show putB (rowU y) = uintF 5 9 ++ uintF 5 y.toNat by simp [putB, rowU, Put.bytes]]
      exact this
    have p3 : evL cfg n_ingotref3_PutBytes 0 [.own false 1 (x.map byteD), .d (.int .i64 (3)), .d (.sl ((putB (rowU y)).map byteD))] [] = some (.own false 1 ((x ++ (rowP y).bytes).map byteD), []) := ref3_PutBytes_own (num := 3) (by omega) (by omega) (by omega) (by omega)
    rw [go_loop]
    generalize putB (rowU y) = q at *
    generalize uintF 5 9 = q0 at *
    simp (disch := first | omega | (simp only [go_sem, List.length_take, List.length_drop] <;> omega) | assumption | decide | fail) only [go_sem, X_ingotlaw21_FootTwice, d_a, hb, List.length_map, h2, byteD_eq, p1, p2, p3, Int.natCast_add, Nat.reduceLeDiff, Nat.reduceLT, Nat.reduceAdd, Int.reduceAdd, Int.reduceSub, Int.reduceNeg, ↓reduceIte, Nat.reduceEqDiff, reduceCtorEq, Int.reduceBEq, Int.reduceBNe, Nat.reduceBEq]
theorem tw_check (rows : List UInt8) (hn : rows.length ≤ 100) (x0 x2 x3 x4 x5 x6 x7 x8 x9 x10 x11 : D) : ∀ (r : List UInt8) (i : Nat), rows.drop i = r → i ≤ rows.length →
    go X_ingotlaw21_FootTwice [.c (.loop b_ingotlaw21_FootTwice_21), .b 2, .c (.seq r_ingotlaw21_FootTwice_22 .ret)] ⟨[(2, .d (.sl ((rows).map byteD))), (9, .ref 0 9 0), (11, .d (.int .i64 ((i : Int))))], [(⟨0, 9, 0⟩, .d x0), (⟨0, 9, 1⟩, .d (.sl (rows.map rowD))), (⟨0, 9, 2⟩, .d x2), (⟨0, 9, 3⟩, .d x3), (⟨0, 9, 4⟩, .d x4), (⟨0, 9, 5⟩, .d x5), (⟨0, 9, 6⟩, .d x6), (⟨0, 9, 7⟩, .d x7), (⟨0, 9, 8⟩, .d x8), (⟨0, 9, 9⟩, .d x9), (⟨0, 9, 10⟩, .d x10), (⟨0, 9, 11⟩, .d x11)]⟩ = some (.d (.bool (true)), [])
  | [], i, hr, hi => by
    have := dropEnd hr
    have : i = rows.length := by omega
    subst this
    have d_a : decide ((rows.length : Int) < rows.length) = false := by simp <;> omega
    rw [go_loop]
    simp (disch := first | omega | (simp only [go_sem, List.length_take, List.length_drop] <;> omega) | assumption | decide | fail) only [go_sem, X_ingotlaw21_FootTwice, d_a, List.length_map, Nat.reduceLeDiff, Nat.reduceLT, Nat.reduceAdd, Int.reduceAdd, Int.reduceSub, Int.reduceNeg, ↓reduceIte, Nat.reduceEqDiff, reduceCtorEq, Int.reduceBEq, Int.reduceBNe, Nat.reduceBEq]
  | y :: r, i, hr, hi => by
    obtain ⟨h1, h2, h3⟩ := dropAt hr
    have d_a : decide ((i : Int) < rows.length) = true := by simp <;> omega
    have hy := u8_lt y
    have e : ((y.toNat : Int) != (y.toNat : Int)) = false := by simp
    have ih := tw_check rows hn x0 x2 x3 x4 x5 x6 x7 x8 x9 x10 x11 r (i + 1) h3 h1
    rw [show (((i + 1 : Nat)) : Int) = (i : Int) + 1 by omega] at ih
    rw [go_loop]
    simp (disch := first | omega | (simp only [go_sem, List.length_take, List.length_drop] <;> omega) | assumption | decide | fail) only [go_sem, X_ingotlaw21_FootTwice, d_a, List.length_map, h2, byteD_eq, rowD, e, len5, List.getElem?_map, Option.map_some, Nat.reduceLeDiff, Nat.reduceLT, Nat.reduceAdd, Int.reduceAdd, Int.reduceSub, Int.reduceNeg, ↓reduceIte, Nat.reduceEqDiff, reduceCtorEq, Int.reduceBEq, Int.reduceBNe, Nat.reduceBEq]
    exact ih
theorem rowFootTwice (a b : Int) (rows : List UInt8) (_ : rows.length ≤ maxLen) (w0 : (Lit.int .u16 a).wf = true) (w1 : (Lit.int .u16 b).wf = true) : evL cfg n_ingotlaw21_FootTwice 0 [.d (.int .u16 a), .d (.int .u16 b), .d (.sl ((rows).map byteD))] [] = some (.d (.bool (true)), []) := by
  have ha : 0 ≤ a ∧ a ≤ 65535 := by simp [Lit.wf, IntKind.min, IntKind.max, IntKind.signed, IntKind.bits] at w0; omega
  have hb : 0 ≤ b ∧ b ≤ 65535 := by simp [Lit.wf, IntKind.min, IntKind.max, IntKind.signed, IntKind.bits] at w1; omega
  clear w0 w1
  obtain ⟨A, rfl⟩ : ∃ A : Nat, a = (A : Int) := ⟨a.toNat, by omega⟩
  obtain ⟨B, rfl⟩ : ∃ B : Nat, b = (B : Int) := ⟨b.toNat, by omega⟩
  rw [o_ingotlaw21_FootTwice]
  by_cases hn : rows.length > 100
  · have d_c : decide ((rows.length : Int) > 100) = true := by simp <;> omega
    simp (disch := first | omega | (simp only [go_sem, List.length_take, List.length_drop] <;> omega) | assumption | decide | fail) only [go_sem, X_ingotlaw21_FootTwice, c_ingotlaw21_FootTwice, known_ok, List.length_map, d_c, Nat.reduceLeDiff, Nat.reduceLT, Nat.reduceAdd, Int.reduceAdd, Int.reduceSub, Int.reduceNeg, ↓reduceIte, Nat.reduceEqDiff, reduceCtorEq, Int.reduceBEq, Int.reduceBNe, Nat.reduceBEq]
  have d_c : decide ((rows.length : Int) > 100) = false := by simp <;> omega
  have a1 := uintF_len 6 A
  have a2 := uintF_len 8 A
  have g1 : evL cfg n_ingotref3_PutUint 0 [.d .nilS, .d (.int .i64 (6)), .d (.int .u64 ((A : Int)))] [] = some (.own false 1 ((uintF 6 A).map byteD), []) := ref3_PutUint_nil (num := 6) (v := A) (by omega) (by omega) (by omega)
  have g2 : evL cfg n_ingotref3_PutUint 0 [.own false 1 ((uintF 6 A).map byteD), .d (.int .i64 (8)), .d (.int .u64 ((A : Int)))] [] = some (.own false 1 ((uintF 6 A ++ uintF 8 A).map byteD), []) := ref3_PutUint_own (num := 8) (v := A) (by omega) (by omega) (by omega) (by omega)
  have l1 := fun K => tw_loop rows (.d (.int .u16 (B : Int))) rfl (by omega) K rows 0 (uintF 6 A ++ uintF 8 A) rfl (Nat.zero_le _) (by simp; omega)
  have hx := twP_len A rows B
  have e : putB (twP A rows B) = ((uintF 6 A ++ uintF 8 A) ++ putB (rows.map rowP) ++ bytesF 4 (uintF 1 12)) ++ uintF 6 B ++ uintF 8 B := by
    unfold twP
    rw [putB_append, putB_append]
    simp [putB, Put.bytes, typP, typU]
  have hne : (uintF 6 A ++ uintF 8 A) ++ putB (rows.map rowP) ≠ [] := by
    intro h
    have := congrArg List.length h
    simp only [List.length_append, List.length_nil] at this; omega
  obtain ⟨fs, ok, u2, u6, u8⟩ := tw_ok A rows B (by omega) (by omega) (by omega)
  have g6 := foot_Decode_ans ok [] (known_none _ rfl _)
  unfold footD at g6
  rw [u2, u6, u8, show (twParts rows).a.map strD = rows.map rowD by
    unfold twParts; rw [List.map_map]; exact List.map_congr_left fun r _ => rowF_d r, show (twParts rows).c.map pairD = [] from rfl] at g6
  rw [e] at hx g6
  generalize (uintF 6 A ++ uintF 8 A) ++ putB (rows.map rowP) = x at *
  simp only [List.length_append] at hx
  have g3 := ref21_PutTypes_one x (by omega)
  rw [ownBy hne] at g3
  have g4 : evL cfg n_ingotref3_PutUint 0 [.own false 1 ((x ++ bytesF 4 (uintF 1 12)).map byteD), .d (.int .i64 (6)), .d (.int .u64 ((B : Int)))] [] = some (.own false 1 ((x ++ bytesF 4 (uintF 1 12) ++ uintF 6 B).map byteD), []) := ref3_PutUint_own (num := 6) (v := B) (by simp only [List.length_append]; omega) (by omega) (by omega) (by omega)
  have g5 : evL cfg n_ingotref3_PutUint 0 [.own false 1 ((x ++ bytesF 4 (uintF 1 12) ++ uintF 6 B).map byteD), .d (.int .i64 (8)), .d (.int .u64 ((B : Int)))] [] = some (.own false 1 ((x ++ bytesF 4 (uintF 1 12) ++ uintF 6 B ++ uintF 8 B).map byteD), []) := ref3_PutUint_own (num := 8) (v := B) (by simp only [List.length_append]; omega) (by omega) (by omega) (by omega)
  have e1 : ((B : Int) != (B : Int)) = false := by simp
  have e2 : ((rows.length : Int) != (rows.length : Int)) = false := by simp
  simp (disch := first | omega | (simp only [go_sem, List.length_take, List.length_drop] <;> omega) | assumption | decide | fail) only [go_sem, X_ingotlaw21_FootTwice, c_ingotlaw21_FootTwice, known_ok, List.length_map, d_c, g1, g2, Nat.reduceLeDiff, Nat.reduceLT, Nat.reduceAdd, Int.reduceAdd, Int.reduceSub, Int.reduceNeg, ↓reduceIte, Nat.reduceEqDiff, reduceCtorEq, Int.reduceBEq, Int.reduceBNe, Nat.reduceBEq]
  refine (l1 _).trans ?_
  clear l1 g1 g2
  generalize x ++ bytesF 4 (uintF 1 12) ++ uintF 6 B ++ uintF 8 B = x4 at *
  generalize x ++ bytesF 4 (uintF 1 12) ++ uintF 6 B = x3 at *
  generalize x ++ bytesF 4 (uintF 1 12) = x2 at *
  simp (disch := first | omega | (simp only [go_sem, List.length_take, List.length_drop] <;> omega) | assumption | decide | fail) only [go_sem, X_ingotlaw21_FootTwice, List.length_map, g3, g4, g5, g6, e1, e2, len12, Nat.reduceLeDiff, Nat.reduceLT, Nat.reduceAdd, Int.reduceAdd, Int.reduceSub, Int.reduceNeg, ↓reduceIte, Nat.reduceEqDiff, reduceCtorEq, Int.reduceBEq, Int.reduceBNe, Nat.reduceBEq]
  exact tw_check rows (by omega) _ _ _ _ _ _ _ _ _ _ _ rows 0 rfl (Nat.zero_le _)
end Go.Proofs.YtpnhljhciibfnaaGreatDoor
