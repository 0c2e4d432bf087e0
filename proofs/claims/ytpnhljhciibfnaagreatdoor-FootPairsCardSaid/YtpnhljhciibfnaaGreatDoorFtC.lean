/- A footer's user data. -/
import Derived.Test.YtpnhljhciibfnaaGreatDoorFtB
namespace Go.Proofs.YtpnhljhciibfnaaGreatDoor
open Go Go.Ev
set_option linter.unusedVariables false
set_option linter.unusedSimpArgs false
set_option maxHeartbeats 4000000

theorem len2' (a b : D) : [a, b].length = 2 := rfl
def tM (l : List Fld) (k : Nat) : List UInt8 := ((lastM l k 2).getD fld0).b
def pairD (l : List Fld) : D := .agg [.str (tM l 1), .sl ((tM l 2).map byteD)]
def pairOk (l : List Fld) : Prop := l.length ≤ 1000000 ∧ ∀ f ∈ l, f.b.length ≤ 1000000
abbrev prE (ls : List (List Fld)) (i : Nat) (acc : List (List Fld)) : List (Nat × V) := [(4, ownZ 2 (acc.map pairD)), (18, .d (.sl (ls.map fldsD))), (19, .d (.int .i64 ((ls.length : Int)))), (20, .d (.int .i64 ((i : Int))))]
theorem ownPr (acc : List (List Fld)) (f : List Fld) : ownZ 2 ((acc ++ [f]).map pairD) = .own false 2 (acc.map pairD ++ [pairD f]) := by
  rw [List.map_append, List.map_cons, List.map_nil, ownZ_snoc]
theorem pairs_step (ls : List (List Fld)) (i : Nat) (l : List Fld) (acc : List (List Fld)) (hl : ls[i]? = some l) (hi : i < ls.length) (hn : ls.length ≤ 1024) (ha : acc.length ≤ i) (hs : pairOk l) (x0 x1 x2 x3 x4 x5 x6 x7 x8 : D) (K : List Kf) :
    go X_foot_parts_pairs (.c (.loop b_foot_parts_pairs_11) :: K) ⟨prE ls i acc, b9 1 x0 x1 x2 x3 x4 x5 x6 x7 x8⟩ =
      go X_foot_parts_pairs (.c (.loop b_foot_parts_pairs_11) :: K) ⟨prE ls (i + 1) (acc ++ [l]), b9 1 x0 x1 x2 x3 x4 x5 x6 x7 x8⟩ := by
  have d_a : decide ((i : Int) < ls.length) = true := by simp <;> omega
  obtain ⟨s0, s1⟩ := hs
  have n1 : evL cfg n_pb_Text 0 [.d (.sl (l.map Fld.d)), .d (.int .i64 (1))] [] = some (textD (lastM l 1 2), []) := pb_Text_ans l 1 s0 s1
  have n2 : evL cfg n_pb_Text 0 [.d (.sl (l.map Fld.d)), .d (.int .i64 (2))] [] = some (textD (lastM l 2 2), []) := pb_Text_ans l 2 s0 s1
  unfold textD at n1 n2
  simp only [prE, b9, ownPr]
  unfold pairD tM
  generalize lastM l 1 2 = o1 at *
  generalize lastM l 2 2 = o2 at *
  generalize (o1.getD fld0).b = t1 at *
  generalize (o2.getD fld0).b = t2 at *
  conv => lhs; rw [go_loop]
  cases acc with
  | nil =>
    simp (disch := first | omega | (simp only [go_sem, List.length_take, List.length_drop] <;> omega) | assumption | decide | fail) only [go_sem, X_foot_parts_pairs, d_a, hl, fldsD, List.map_nil, ownZ_nil, n1, n2, List.nil_append, Int.natCast_add, len2', Nat.reduceLeDiff, Nat.reduceLT, Nat.reduceAdd, Int.reduceAdd, Int.reduceSub, Int.reduceNeg, ↓reduceIte, Nat.reduceEqDiff, reduceCtorEq, Int.reduceBEq, Int.reduceBNe, Nat.reduceBEq]
  | cons y acc =>
    simp only [List.length_cons] at ha
    simp (disch := first | omega | (simp only [go_sem, List.length_take, List.length_drop] <;> omega) | assumption | decide | fail) only [go_sem, X_foot_parts_pairs, d_a, hl, fldsD, List.map_cons, ownZ_cons, n1, n2, List.cons_append, List.length_cons, List.length_map, Int.natCast_add, len2', Nat.reduceLeDiff, Nat.reduceLT, Nat.reduceAdd, Int.reduceAdd, Int.reduceSub, Int.reduceNeg, ↓reduceIte, Nat.reduceEqDiff, reduceCtorEq, Int.reduceBEq, Int.reduceBNe, Nat.reduceBEq]
theorem pairs_loop (ls : List (List Fld)) (hn : ls.length ≤ 1024) (hw : ∀ l ∈ ls, pairOk l) (x0 x1 x2 x3 x4 x5 x6 x7 x8 : D) (K : List Kf) : ∀ (r : List (List Fld)) (i : Nat) (acc : List (List Fld)), ls.drop i = r → i ≤ ls.length → acc.length ≤ i →
    go X_foot_parts_pairs (.c (.loop b_foot_parts_pairs_11) :: .b 0 :: K) ⟨prE ls i acc, b9 1 x0 x1 x2 x3 x4 x5 x6 x7 x8⟩ = go X_foot_parts_pairs K ⟨prE ls ls.length (acc ++ r) ++ [(21, .d (.bool (false)))], b9 1 x0 x1 x2 x3 x4 x5 x6 x7 x8⟩
  | [], i, acc, hr, hi, hs => by
    have := dropEnd hr
    have : i = ls.length := by omega
    subst this
    have d_a : decide ((ls.length : Int) < ls.length) = false := by simp <;> omega
    rw [List.append_nil]
    rw [go_loop]
    simp only [List.cons_append, List.nil_append]
    simp (disch := first | omega | (simp only [go_sem, List.length_take, List.length_drop] <;> omega) | assumption | decide | fail) only [go_sem, X_foot_parts_pairs, d_a, home_ownZ, Nat.reduceLeDiff, Nat.reduceLT, Nat.reduceAdd, Int.reduceAdd, Int.reduceSub, Int.reduceNeg, ↓reduceIte, Nat.reduceEqDiff, reduceCtorEq, Int.reduceBEq, Int.reduceBNe, Nat.reduceBEq]
  | l :: r, i, acc, hr, hi, hs => by
    obtain ⟨h1, h2, h3⟩ := dropAt hr
    have hm : l ∈ ls := List.mem_of_getElem? h2
    have ih := pairs_loop ls hn hw x0 x1 x2 x3 x4 x5 x6 x7 x8 K r (i + 1) (acc ++ [l]) h3 h1 (by simp; omega)
    rw [List.append_assoc, List.singleton_append] at ih
    exact Eq.trans (pairs_step ls i l acc h2 h1 hn hs (hw l hm) x0 x1 x2 x3 x4 x5 x6 x7 x8 _) ih
theorem pairs_ans (p : Parts) (hn : p.c.length ≤ 32) (hw : ∀ l ∈ p.c, pairOk l) : evL cfg n_foot_parts_pairs 0 [.d (partsD p)] [] = some (.d (.tup [.sl (p.c.map pairD), .bool true]), []) := by
  rw [o_foot_parts_pairs]
  have d_a : decide ((p.c.length : Int) > 32) = false := by simp <;> omega
  have h := pairs_loop p.c (by omega) hw (.sl []) (.sl []) (.sl []) (.sl (p.a.map fldsD)) (.sl (p.b.map fldsD)) (.sl (p.c.map fldsD)) (.sl []) (.sl (p.e.map fldsD)) (.sl (p.st.map bytesD)) [.c (.seq r_foot_parts_pairs_12 .ret)] p.c 0 [] rfl (Nat.zero_le _) (Nat.zero_le _)
  simp only [List.map_nil, ownZ_nil, List.cons_append, List.nil_append, prE] at h
  unfold partsD
  simp (disch := first | omega | (simp only [go_sem, List.length_take, List.length_drop] <;> omega) | assumption | decide | fail) only [go_sem, X_foot_parts_pairs, c_foot_parts_pairs, List.length_map, d_a, len9, cst8, Int.reduceLE, Int.reduceLT, Int.reduceToNat, Nat.reduceMul, and_self, if_true, Nat.reduceLeDiff, Nat.reduceLT, Nat.reduceAdd, Int.reduceAdd, Int.reduceSub, Int.reduceNeg, ↓reduceIte, Nat.reduceEqDiff, reduceCtorEq, Int.reduceBEq, Int.reduceBNe, Nat.reduceBEq]
  refine h.trans ?_
  clear h
  cases p.c with
  | nil => simp (disch := first | omega | (simp only [go_sem, List.length_take, List.length_drop] <;> omega) | assumption | decide | fail) only [go_sem, X_foot_parts_pairs, List.map_nil, ownZ_nil, Nat.reduceLeDiff, Nat.reduceLT, Nat.reduceAdd, Int.reduceAdd, Int.reduceSub, Int.reduceNeg, ↓reduceIte, Nat.reduceEqDiff, reduceCtorEq, Int.reduceBEq, Int.reduceBNe, Nat.reduceBEq]
  | cons y r => simp (disch := first | omega | (simp only [go_sem, List.length_take, List.length_drop] <;> omega) | assumption | decide | fail) only [go_sem, X_foot_parts_pairs, List.map_cons, ownZ_cons, Nat.reduceLeDiff, Nat.reduceLT, Nat.reduceAdd, Int.reduceAdd, Int.reduceSub, Int.reduceNeg, ↓reduceIte, Nat.reduceEqDiff, reduceCtorEq, Int.reduceBEq, Int.reduceBNe, Nat.reduceBEq]
end Go.Proofs.YtpnhljhciibfnaaGreatDoor
