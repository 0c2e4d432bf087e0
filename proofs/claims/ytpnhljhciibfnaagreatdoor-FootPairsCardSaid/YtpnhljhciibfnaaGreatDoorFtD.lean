/- A footer read: its tree of one column, what is known, the whole. -/
import Derived.Test.YtpnhljhciibfnaaGreatDoorFtC
namespace Go.Proofs.YtpnhljhciibfnaaGreatDoor
open Go Go.Ev
set_option linter.unusedVariables false
set_option linter.unusedSimpArgs false
set_option maxHeartbeats 4000000
set_option maxRecDepth 100000

abbrev i0 : D := .int .i64 0
abbrev nodD : D := .agg [.int .i64 12, .sl [], .sl [], i0, i0, i0, i0, i0]
abbrev typD : D := .agg [.int .i64 12, .sl [], .sl [], i0, i0, i0]
abbrev colD : D := .agg [.int .i64 12, .sl [], .sl [], i0, i0, i0, .int .i64 (-1), .int .i64 1]
theorem node_one : evL cfg n_foot_node 0 [.d (.sl [Fld.d ⟨1, 0, 12, [], 0⟩])] [] = some (.d (.tup [nodD, .int .i64 0]), []) := evL_of_evFn (n := 20) (by kernel_rfl)
theorem build_one : evL cfg n_types_Build 0 [.d (.sl [nodD])] [] = some (.d (.tup [typD, .int .i64 0]), []) := evL_of_evFn (n := 20) (by kernel_rfl)
theorem flat_one : evL cfg n_types_Flatten 0 [.d typD] [] = some (.d (.sl [colD]), []) := evL_of_evFn (n := 20) (by kernel_rfl)
theorem len8 (a b c d e f g h : D) : [a, b, c, d, e, f, g, h].length = 8 := rfl
theorem tree_one (p : Parts) (hb : p.b = [[⟨1, 0, 12, [], 0⟩]]) : evL cfg n_foot_parts_tree 0 [.d (partsD p)] [] = some (.d (.tup [typD, .int .i64 0]), []) := by
  rw [o_foot_parts_tree]
  unfold partsD
  rw [hb]
  have h1 := node_one
  have h2 := build_one
  simp only [List.map_nil, List.map_cons, show fldsD [⟨1, 0, 12, [], 0⟩] = .sl [Fld.d ⟨1, 0, 12, [], 0⟩] from rfl]
  generalize Fld.d ⟨1, 0, 12, [], 0⟩ = f at *
  simp (disch := first | omega | (simp only [go_sem, List.length_take, List.length_drop] <;> omega) | assumption | decide | fail) only [go_sem, X_foot_parts_tree, c_foot_parts_tree, len9, cst8, Int.reduceLE, Int.reduceLT, Int.reduceToNat, Nat.reduceMul, and_self, if_true, Nat.reduceLeDiff, Nat.reduceLT, Nat.reduceAdd, Int.reduceAdd, Int.reduceSub, Int.reduceNeg, ↓reduceIte, Nat.reduceEqDiff, reduceCtorEq, Int.reduceBEq, Int.reduceBNe, Nat.reduceBEq]
  conv => lhs; rw [go_loop]
  simp (disch := first | omega | (simp only [go_sem, List.length_take, List.length_drop] <;> omega) | assumption | decide | fail) only [go_sem, X_foot_parts_tree, h1, h2, len8, Int.reduceLT, decide_true, Nat.reduceLeDiff, Nat.reduceLT, Nat.reduceAdd, Int.reduceAdd, Int.reduceSub, Int.reduceNeg, ↓reduceIte, Nat.reduceEqDiff, reduceCtorEq, Int.reduceBEq, Int.reduceBNe, Nat.reduceBEq]
  conv => lhs; rw [go_loop]
  simp (disch := first | omega | (simp only [go_sem, List.length_take, List.length_drop] <;> omega) | assumption | decide | fail) only [go_sem, X_foot_parts_tree, h1, h2, len8, Int.reduceLT, decide_false, List.nil_append, Nat.reduceLeDiff, Nat.reduceLT, Nat.reduceAdd, Int.reduceAdd, Int.reduceSub, Int.reduceNeg, ↓reduceIte, Nat.reduceEqDiff, reduceCtorEq, Int.reduceBEq, Int.reduceBNe, Nat.reduceBEq]
theorem known_none (p : Parts) (hp : p.st = []) (cols : List D) : evL cfg n_foot_parts_known 0 [.d (partsD p), .d (.sl cols)] [] = some (.d (.tup [.sl [], .int .i64 0]), []) := by
  rw [o_foot_parts_known]
  unfold partsD
  rw [hp]
  simp only [List.map_nil]
  simp (disch := first | omega | (simp only [go_sem, List.length_take, List.length_drop] <;> omega) | assumption | decide | fail) only [go_sem, X_foot_parts_known, c_foot_parts_known, len9, Int.reduceGT, decide_false, Nat.reduceLeDiff, Nat.reduceLT, Nat.reduceAdd, Int.reduceAdd, Int.reduceSub, Int.reduceNeg, ↓reduceIte, Nat.reduceEqDiff, reduceCtorEq, Int.reduceBEq, Int.reduceBNe, Nat.reduceBEq]
  conv => lhs; rw [go_loop]
  simp (disch := first | omega | (simp only [go_sem, List.length_take, List.length_drop] <;> omega) | assumption | decide | fail) only [go_sem, X_foot_parts_known, Int.reduceLT, decide_false, Nat.reduceLeDiff, Nat.reduceLT, Nat.reduceAdd, Int.reduceAdd, Int.reduceSub, Int.reduceNeg, ↓reduceIte, Nat.reduceEqDiff, reduceCtorEq, Int.reduceBEq, Int.reduceBNe, Nat.reduceBEq]
abbrev bF : D := .bool false
abbrev statD0 : D := .agg [i0, bF, bF, bF, i0, i0, .sl [], .sl [], bF, i0, i0, .sl [], .sl [], bF, i0]
theorem len15 (a b c d e f g h i j k l m n o : D) : [a, b, c, d, e, f, g, h, i, j, k, l, m, n, o].length = 15 := rfl
theorem tk8 (a b c d e f g h : D) : List.take 8 [a, b, c, d, e, f, g, h] = [a, b, c, d, e, f, g, h] := rfl
def stat0 : List UInt8 := [8, 0, 80, 0]
theorem stat_one : evL cfg n_foot_ReadStats 0 [.d colD, .d (.sl ((stat0).map byteD))] [] = some (.d (.tup [statD0, .int .i64 0]), []) := evL_of_evFn (n := 20) (by kernel_rfl)
theorem known_one (p : Parts) (hp : p.st = [stat0]) : evL cfg n_foot_parts_known 0 [.d (partsD p), .d (.sl [colD])] [] = some (.d (.tup [.sl [statD0], .int .i64 0]), []) := by
  rw [o_foot_parts_known]
  unfold partsD
  rw [hp]
  have hr := stat_one
  generalize stat0 = b at *
  simp only [List.map_nil, List.map_cons, show bytesD b = .sl (b.map byteD) from rfl]
  simp (disch := first | omega | (simp only [go_sem, List.length_take, List.length_drop] <;> omega) | assumption | decide | fail) only [go_sem, X_foot_parts_known, c_foot_parts_known, len9, Int.reduceGT, decide_true, Nat.reduceLeDiff, Nat.reduceLT, Nat.reduceAdd, Int.reduceAdd, Int.reduceSub, Int.reduceNeg, ↓reduceIte, Nat.reduceEqDiff, reduceCtorEq, Int.reduceBEq, Int.reduceBNe, Nat.reduceBEq]
  conv => lhs; rw [go_loop]
  simp (disch := first | omega | (simp only [go_sem, List.length_take, List.length_drop] <;> omega) | assumption | decide | fail) only [go_sem, X_foot_parts_known, Int.reduceLT, decide_true, hr, len15, len8, tk8, Nat.reduceLeDiff, Nat.reduceLT, Nat.reduceAdd, Int.reduceAdd, Int.reduceSub, Int.reduceNeg, ↓reduceIte, Nat.reduceEqDiff, reduceCtorEq, Int.reduceBEq, Int.reduceBNe, Nat.reduceBEq]
  conv => lhs; rw [go_loop]
  simp (disch := first | omega | (simp only [go_sem, List.length_take, List.length_drop] <;> omega) | assumption | decide | fail) only [go_sem, X_foot_parts_known, Int.reduceLT, decide_false, List.nil_append, Nat.reduceLeDiff, Nat.reduceLT, Nat.reduceAdd, Int.reduceAdd, Int.reduceSub, Int.reduceNeg, ↓reduceIte, Nat.reduceEqDiff, reduceCtorEq, Int.reduceBEq, Int.reduceBNe, Nat.reduceBEq]
/-- the facts on a footer that is read -/
structure FootOk (l : List UInt8) (fs : List Fld) (p : Parts) : Prop where
  len : l.length ≤ 1000000
  parse : parseM l = (fs, 0)
  want : ∀ f ∈ fs, wantF f
  parts : splM fs noParts = p
  n2 : uM fs 2 ≤ 262144
  n6 : uM fs 6 ≤ 262144
  n8 : uM fs 8 ≤ 262144
  stripes : p.a.length ≤ 1024
  stripe : ∀ l ∈ p.a, strOk l
  types : p.b = [[⟨1, 0, 12, [], 0⟩]]
  pairs : p.c.length ≤ 32
  pair : ∀ l ∈ p.c, pairOk l
def footD (fs : List Fld) (p : Parts) (sts : List D) : D := .agg [.int .i64 ((uM fs 2 : Nat) : Int), .sl (p.a.map strD), .int .i64 12, .sl [], .sl [], i0, i0, i0, .sl (p.c.map pairD), .int .i64 ((uM fs 6 : Nat) : Int), .sl sts, .int .i64 ((uM fs 8 : Nat) : Int)]
theorem len12 (a b c d e f g h i j k l : D) : [a, b, c, d, e, f, g, h, i, j, k, l].length = 12 := rfl
theorem len6 (a b c d e f : D) : [a, b, c, d, e, f].length = 6 := rfl
theorem foot_Decode_ans {l : List UInt8} {fs : List Fld} {p : Parts} (h : FootOk l fs p) (sts : List D) (hk : evL cfg n_foot_parts_known 0 [.d (partsD p), .d (.sl [colD])] [] = some (.d (.tup [.sl sts, .int .i64 0]), [])) : evL cfg n_foot_Decode 0 [.d (.sl ((l).map byteD))] [] = some (.d (.tup [footD fs p sts, .int .i64 0]), []) := by
  obtain ⟨h1, h2, h3, h4, h5, h6, h7, h8, h9, h10, h11, h12⟩ := h
  rw [o_foot_Decode]
  have g1 := pb_Parse_ans l h1
  have ok := parseM_ok l
  rw [h2] at ok
  obtain ⟨ok1, ok2⟩ := ok
  simp only at ok1 ok2
  unfold parseD at g1
  rw [h2] at g1
  simp only at g1
  have g2 := foot_split_ans fs (by omega) (fun f hf => Nat.le_trans (ok1 f hf) h1) h3
  rw [h4] at g2
  have g3 : evL cfg n_foot_number 0 [.d (.sl (fs.map Fld.d)), .d (.int .i64 (2))] [] = some (.d (.tup [.int .i64 ((uM fs 2 : Nat) : Int), .bool true]), []) := foot_number_ans fs 2 (by omega) h5
  have g4 := stripes_ans p h8 h9
  have g5 := tree_one p h10
  have g6 := pairs_ans p h11 h12
  have g7 : evL cfg n_foot_number 0 [.d (.sl (fs.map Fld.d)), .d (.int .i64 (6))] [] = some (.d (.tup [.int .i64 ((uM fs 6 : Nat) : Int), .bool true]), []) := foot_number_ans fs 6 (by omega) h6
  have g8 : evL cfg n_foot_number 0 [.d (.sl (fs.map Fld.d)), .d (.int .i64 (8))] [] = some (.d (.tup [.int .i64 ((uM fs 8 : Nat) : Int), .bool true]), []) := foot_number_ans fs 8 (by omega) h7
  have g9 := flat_one
  unfold footD
  unfold partsD at g2 g4 g5 g6 hk
  generalize uM fs 2 = u2 at *
  generalize uM fs 6 = u6 at *
  generalize uM fs 8 = u8 at *
  simp (disch := first | omega | (simp only [go_sem, List.length_take, List.length_drop] <;> omega) | assumption | decide | fail) only [go_sem, X_foot_Decode, c_foot_Decode, g1, g2, len9, len12, len6, g3, g4, g5, g6, g7, g8, g9, hk, Nat.reduceLeDiff, Nat.reduceLT, Nat.reduceAdd, Int.reduceAdd, Int.reduceSub, Int.reduceNeg, ↓reduceIte, Nat.reduceEqDiff, reduceCtorEq, Int.reduceBEq, Int.reduceBNe, Nat.reduceBEq]
end Go.Proofs.YtpnhljhciibfnaaGreatDoor
