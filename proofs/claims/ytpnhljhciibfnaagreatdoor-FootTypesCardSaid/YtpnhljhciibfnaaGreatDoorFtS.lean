/- A tree's columns as bytes: the program's writer, the whole. -/
import Derived.Test.YtpnhljhciibfnaaGreatDoorFtR
namespace Go.Proofs.YtpnhljhciibfnaaGreatDoor
open Go Go.Ev
set_option linter.unusedVariables false
set_option linter.unusedSimpArgs false
set_option maxHeartbeats 4000000
set_option maxRecDepth 100000

/-- a box of a node, if there is one yet -/
def boxN (k : Nat) : Option (Nd × D × D) → List (Cel × V)
  | none => []
  | some n => [(⟨0, k, 0⟩, .d (.int .i64 ((n.1.kind : Int)))), (⟨0, k, 1⟩, .d (intsD n.1.kids)), (⟨0, k, 2⟩, .d (.sl (n.1.names.map D.str))), (⟨0, k, 3⟩, .d (.int .i64 ((n.1.len : Int)))), (⟨0, k, 4⟩, .d (.int .i64 ((n.1.prec : Int)))), (⟨0, k, 5⟩, .d (.int .i64 ((n.1.scale : Int)))), (⟨0, k, 6⟩, .d n.2.1), (⟨0, k, 7⟩, .d n.2.2)]
theorem boxN_none (k : Nat) : boxN k none = [] := rfl
theorem freeM_boxN (k : Nat) (o : Option (Nd × D × D)) : freeM 0 k (boxN k o) = [] := by
  cases o with
  | none => rfl
  | some f => simp only [boxN, freeM_cons, freeM_nil, true_and, if_true]
theorem settleM_boxN (k : Nat) (o : Option (Nd × D × D)) : settleM 0 (boxN k o) = boxN k o := by cases o <;> rfl
theorem leaveM_boxN (k : Nat) (o : Option (Nd × D × D)) : leaveM 0 (boxN k o) = [] := by cases o <;> rfl
abbrev b6 (k : Nat) (t0 t1 t2 t3 t4 t5 : D) : List (Cel × V) := [(⟨0, k, 0⟩, .d t0), (⟨0, k, 1⟩, .d t1), (⟨0, k, 2⟩, .d t2), (⟨0, k, 3⟩, .d t3), (⟨0, k, 4⟩, .d t4), (⟨0, k, 5⟩, .d t5)]
abbrev poE (ns : List (Nd × D × D)) (i : Nat) (b : List UInt8) : List (Nat × V) := [(5, .d (.sl ((b).map byteD))), (19, .d (.sl (ns.map nodP))), (20, .d (.int .i64 ((ns.length : Int)))), (21, .d (.int .i64 ((i : Int))))]
theorem po_step (ns : List (Nd × D × D)) (i : Nat) (n : Nd × D × D) (hi : ns[i]? = some n) (hlt : i < ns.length) (hn : ns.length ≤ 100000) (ok : NdOk n.1) (b : List UInt8) (hb : b.length ≤ 500000) (o : Option (Nd × D × D)) (t0 t1 t2 t3 t4 t5 : D) (K : List Kf) :
    go X_foot_PutTypes (.c (.loop b_foot_PutTypes_30) :: K) ⟨poE ns i b, b6 3 t0 t1 t2 t3 t4 t5 ++ boxN 7 o⟩ = go X_foot_PutTypes (.c (.loop b_foot_PutTypes_30) :: K) ⟨poE ns (i + 1) (b ++ bytesF 4 (ndB n.1)), b6 3 t0 t1 t2 t3 t4 t5 ++ boxN 7 (some n)⟩ := by
  obtain ⟨o1, o2, o3, o4, o5, ⟨o6, o7⟩, o8⟩ := ok
  unfold ndB at o8 ⊢
  simp only [List.length_append] at o8
  have d_a : decide ((i : Int) < ns.length) = true := by simp <;> omega
  have q1 := uintF_len 1 n.1.kind
  have hM : settleM 0 (b6 3 t0 t1 t2 t3 t4 t5 ++ boxN 7 (some n)) = b6 3 t0 t1 t2 t3 t4 t5 ++ boxN 7 (some n) := rfl
  have g1 : evL cfg n_pb_PutUint 0 [.d (.sl ((([] : List UInt8)).map byteD)), .d (.int .i64 (1)), .d (.int .u64 ((n.1.kind : Int)))] [] = some (.d (.sl (([] ++ uintF 1 n.1.kind).map byteD)), []) := pb_PutUint_ans (num := 1) (by simp) (by omega) (by omega) (by omega)
  simp only [List.map_nil, List.nil_append] at g1
  have l1 := fun K => pk_loop ns i n.1.kids o2 o6 b (uintF 1 n.1.kind) _ hM K n.1.kids 0 [] rfl (Nat.zero_le _) (Nat.zero_le _)
  have l2 := fun K => pn_loop ns i n.1.names o7 b _ hM K n.1.names 0 (uintF 1 n.1.kind ++ kidF n.1.kids) rfl (Nat.zero_le _) (by simp only [List.length_append]; omega)
  have l3 := fun K => p3_0 ns i n.1.len n.1.prec n.1.scale o3 b (uintF 1 n.1.kind ++ kidF n.1.kids ++ namB n.1.names) (by simp only [List.length_append]; omega) _ hM K
  have l4 := fun K => p3_1 ns i n.1.len n.1.prec n.1.scale o4 b (uintF 1 n.1.kind ++ kidF n.1.kids ++ namB n.1.names ++ numB 4 n.1.len) (by simp only [List.length_append]; omega) _ hM K
  have l5 := fun K => p3_2 ns i n.1.len n.1.prec n.1.scale o5 b (uintF 1 n.1.kind ++ kidF n.1.kids ++ namB n.1.names ++ numB 4 n.1.len ++ numB 5 n.1.prec) (by simp only [List.length_append]; omega) _ hM K
  have e6 : (uintF 1 n.1.kind ++ kidF n.1.kids ++ namB n.1.names ++ numB 4 n.1.len ++ numB 5 n.1.prec ++ numB 6 n.1.scale).length ≤ 300000 := by simp only [List.length_append]; omega
  have hS := settleM_boxN 7 o
  have hF := freeM_boxN 7 o
  generalize boxN 7 o = T at *
  simp only [poE, b6, boxN, List.cons_append, List.nil_append] at l1 l2 l3 l4 l5 ⊢
  have tail : go X_foot_PutTypes (.c (.loop b_foot_PutTypes_20) :: .b 4 :: .c ((r_foot_PutTypes_21.seq (.block 6 (.loop b_foot_PutTypes_27))).seq r_foot_PutTypes_28) :: .b 1 :: .c r_foot_PutTypes_29 :: .c (.loop b_foot_PutTypes_30) :: K)
      ⟨pnE ns i n.1.names b (uintF 1 n.1.kind ++ kidF n.1.kids) 0, b6 3 t0 t1 t2 t3 t4 t5 ++ boxN 7 (some n)⟩ =
      go X_foot_PutTypes (.c (.loop b_foot_PutTypes_30) :: K) ⟨poE ns (i + 1) (b ++ bytesF 4 (uintF 1 n.1.kind ++ kidF n.1.kids ++ namB n.1.names ++ numB 4 n.1.len ++ numB 5 n.1.prec ++ numB 6 n.1.scale)), b6 3 t0 t1 t2 t3 t4 t5 ++ boxN 7 (some n)⟩ := by
    simp only [poE, b6, boxN, List.cons_append, List.nil_append]
    refine (l2 _).trans ?_
    simp only [p3E, pnE, List.cons_append, List.nil_append] at l3 l4 l5 ⊢
    simp (disch := first | omega | (simp only [go_sem, List.length_take, List.length_drop] <;> omega) | assumption | decide | fail) only [go_sem, X_foot_PutTypes, Nat.reduceLeDiff, Nat.reduceLT, Nat.reduceAdd, Int.reduceAdd, Int.reduceSub, Int.reduceNeg, ↓reduceIte, Nat.reduceEqDiff, reduceCtorEq, Int.reduceBEq, Int.reduceBNe, Nat.reduceBEq]
    refine (l3 _).trans ((l4 _).trans ((l5 _).trans ?_))
    clear l1 l2 l3 l4 l5
    generalize uintF 1 n.1.kind ++ kidF n.1.kids ++ namB n.1.names ++ numB 4 n.1.len ++ numB 5 n.1.prec ++ numB 6 n.1.scale = x at *
    conv => lhs; rw [go_loop]
    have hp : evL cfg n_pb_PutBytes 0 [.d (.sl ((b).map byteD)), .d (.int .i64 (4)), .d (.sl ((x).map byteD))] [] = some (.own false 1 ((b ++ bytesF 4 x).map byteD), []) := pb_PutBytes_ans (num := 4) (by omega) (by omega) (by omega) (by omega)
    simp (disch := first | omega | (simp only [go_sem, List.length_take, List.length_drop] <;> omega) | assumption | decide | fail) only [go_sem, X_foot_PutTypes, Int.reduceLT, decide_false, hp, Int.natCast_add, intsD, Nat.reduceLeDiff, Nat.reduceLT, Nat.reduceAdd, Int.reduceAdd, Int.reduceSub, Int.reduceNeg, ↓reduceIte, Nat.reduceEqDiff, reduceCtorEq, Int.reduceBEq, Int.reduceBNe, Nat.reduceBEq]
  simp only [poE, b6, boxN, List.cons_append, List.nil_append] at tail
  refine Eq.trans ?_ tail
  clear tail l2 l3 l4 l5
  conv => lhs; rw [go_loop]
  simp only [pkE, accV_nil, List.nil_append] at l1
  simp (disch := first | omega | (simp only [go_sem, List.length_take, List.length_drop] <;> omega) | assumption | decide | fail) only [go_sem, X_foot_PutTypes, d_a, hS, hF, hi, nodP, g1, len8, tk8, intsD, Nat.reduceLeDiff, Nat.reduceLT, Nat.reduceAdd, Int.reduceAdd, Int.reduceSub, Int.reduceNeg, ↓reduceIte, Nat.reduceEqDiff, reduceCtorEq, Int.reduceBEq, Int.reduceBNe, Nat.reduceBEq]
  refine (l1 _).trans ?_
  clear l1
  simp only [pnE]
  unfold kidF at o8 ⊢
  by_cases hz : kidB n.1.kids = []
  · rw [hz, if_pos rfl, List.append_nil]
    simp (disch := first | omega | (simp only [go_sem, List.length_take, List.length_drop] <;> omega) | assumption | decide | fail) only [go_sem, X_foot_PutTypes, accV_nil, Int.reduceGT, decide_false, intsD, Nat.reduceLeDiff, Nat.reduceLT, Nat.reduceAdd, Int.reduceAdd, Int.reduceSub, Int.reduceNeg, ↓reduceIte, Nat.reduceEqDiff, reduceCtorEq, Int.reduceBEq, Int.reduceBNe, Nat.reduceBEq]
  · rw [if_neg hz] at o8 ⊢
    have hlen : (kidB n.1.kids).length ≤ 200000 := by
      simp only [bytesF, List.length_append] at o8; omega
    rw [accV_ne hz]
    have hp : evL cfg n_pb_PutBytes 0 [.d (.sl ((uintF 1 n.1.kind).map byteD)), .d (.int .i64 (2)), .d (.sl ((kidB n.1.kids).map byteD))] [] = some (.own false 1 ((uintF 1 n.1.kind ++ bytesF 2 (kidB n.1.kids)).map byteD), []) := pb_PutBytes_ans (num := 2) (by omega) (by omega) (by omega) (by omega)
    have hpos : 0 < (kidB n.1.kids).length := List.length_pos_iff.2 hz
    have d_c : decide (((kidB n.1.kids).length : Int) > 0) = true := by simp <;> omega
    generalize kidB n.1.kids = q at *
    simp (disch := first | omega | (simp only [go_sem, List.length_take, List.length_drop] <;> omega) | assumption | decide | fail) only [go_sem, X_foot_PutTypes, List.length_map, d_c, hp, intsD, Nat.reduceLeDiff, Nat.reduceLT, Nat.reduceAdd, Int.reduceAdd, Int.reduceSub, Int.reduceNeg, ↓reduceIte, Nat.reduceEqDiff, reduceCtorEq, Int.reduceBEq, Int.reduceBNe, Nat.reduceBEq]
theorem po_loop (ns : List (Nd × D × D)) (hn : ns.length ≤ 100000) (ok : ∀ n ∈ ns, NdOk n.1) (t0 t1 t2 t3 t4 t5 : D) (K : List Kf) : ∀ (r : List (Nd × D × D)) (i : Nat) (b : List UInt8) (o : Option (Nd × D × D)), ns.drop i = r → i ≤ ns.length → (b ++ ndsB (r.map Prod.fst)).length ≤ 500000 →
    ∃ o', go X_foot_PutTypes (.c (.loop b_foot_PutTypes_30) :: .b 0 :: K) ⟨poE ns i b, b6 3 t0 t1 t2 t3 t4 t5 ++ boxN 7 o⟩ = go X_foot_PutTypes K ⟨poE ns ns.length (b ++ ndsB (r.map Prod.fst)) ++ [(22, .d (.bool (false)))], b6 3 t0 t1 t2 t3 t4 t5 ++ boxN 7 o'⟩
  | [], i, b, o, hr, hi, hb => by
    have := dropEnd hr
    have : i = ns.length := by omega
    subst this
    refine ⟨o, ?_⟩
    have d_a : decide ((ns.length : Int) < ns.length) = false := by simp <;> omega
    have hS := settleM_boxN 7 o
    rw [go_loop, List.map_nil, show ndsB [] = [] from rfl, List.append_nil]
    generalize boxN 7 o = T at *
    simp only [List.cons_append, List.nil_append]
    simp (disch := first | omega | (simp only [go_sem, List.length_take, List.length_drop] <;> omega) | assumption | decide | fail) only [go_sem, X_foot_PutTypes, d_a, hS, Nat.reduceLeDiff, Nat.reduceLT, Nat.reduceAdd, Int.reduceAdd, Int.reduceSub, Int.reduceNeg, ↓reduceIte, Nat.reduceEqDiff, reduceCtorEq, Int.reduceBEq, Int.reduceBNe, Nat.reduceBEq]
  | n :: r, i, b, o, hr, hi, hb => by
    obtain ⟨h1, h2, h3⟩ := dropAt hr
    rw [List.map_cons, ndsB_cons, ← List.append_assoc] at hb ⊢
    obtain ⟨o', ih⟩ := po_loop ns hn ok t0 t1 t2 t3 t4 t5 K r (i + 1) (b ++ bytesF 4 (ndB n.1)) (some n) h3 h1 hb
    exact ⟨o', Eq.trans (po_step ns i n h2 h1 hn (ok n (List.mem_of_getElem? h2)) b (by simp only [List.length_append] at hb; omega) o t0 t1 t2 t3 t4 t5 _) ih⟩
theorem foot_PutTypes_ans (b : List UInt8) (t0 t1 t2 t3 t4 t5 : D) (c0 : t0.isCell = true) (c1 : t1.isCell = true) (c2 : t2.isCell = true) (c3 : t3.isCell = true) (c4 : t4.isCell = true) (c5 : t5.isCell = true)
    (k0 : t0.can = t0) (k1 : t1.can = t1) (k2 : t2.can = t2) (k3 : t3.can = t3) (k4 : t4.can = t4) (k5 : t5.can = t5)
    (ns : List (Nd × D × D)) (hf : evL cfg n_types_Flatten 0 [.d (.agg [t0, t1, t2, t3, t4, t5])] [] = some (.d (.sl (ns.map nodP)), [])) (hn : ns.length ≤ 100000) (ok : ∀ n ∈ ns, NdOk n.1) (hb : (b ++ ndsB (ns.map Prod.fst)).length ≤ 500000) :
    evL cfg n_foot_PutTypes 0 [.d (.sl ((b).map byteD)), .d (.agg [t0, t1, t2, t3, t4, t5])] [] = some (.d (.sl ((b ++ ndsB (ns.map Prod.fst)).map byteD)), []) := by
  obtain ⟨o, l⟩ := po_loop ns hn ok t0 t1 t2 t3 t4 t5 [.c (.seq r_foot_PutTypes_31 .ret)] ns 0 b none rfl (Nat.zero_le _) hb
  have hS := settleM_boxN 7 o
  have hL := leaveM_boxN 7 o
  rw [boxN_none] at l
  generalize boxN 7 o = T at *
  simp only [poE, b6, List.cons_append, List.nil_append] at l
  have hc := clone_bytes_ans b (by simp only [List.length_append] at hb; omega)
  rw [o_foot_PutTypes]
  have fin : go X_foot_PutTypes [.c (.loop b_foot_PutTypes_30), .b 0, .c (.seq r_foot_PutTypes_31 .ret)] ⟨[(5, .d (.sl ((b).map byteD))), (19, .d (.sl (ns.map nodP))), (20, .d (.int .i64 ((ns.length : Int)))), (21, .d (.int .i64 (0)))], b6 3 t0 t1 t2 t3 t4 t5⟩ = some (.d (.sl ((b ++ ndsB (ns.map Prod.fst)).map byteD)), []) := by
    refine l.trans ?_
    simp (disch := first | omega | (simp only [go_sem, List.length_take, List.length_drop] <;> omega) | assumption | decide | fail) only [go_sem, X_foot_PutTypes, hS, hL, Nat.reduceLeDiff, Nat.reduceLT, Nat.reduceAdd, Int.reduceAdd, Int.reduceSub, Int.reduceNeg, ↓reduceIte, Nat.reduceEqDiff, reduceCtorEq, Int.reduceBEq, Int.reduceBNe, Nat.reduceBEq]
  clear l
  cases b with
  | nil =>
    simp only [List.isEmpty_nil, if_true, List.map_nil] at hc fin ⊢
    simp (disch := first | omega | (simp only [go_sem, List.length_take, List.length_drop] <;> omega) | assumption | decide | fail) only [go_sem, X_foot_PutTypes, c_foot_PutTypes, len6, c0, c1, c2, c3, c4, c5, k0, k1, k2, k3, k4, k5, hf, hc, List.length_map, Nat.reduceLeDiff, Nat.reduceLT, Nat.reduceAdd, Int.reduceAdd, Int.reduceSub, Int.reduceNeg, ↓reduceIte, Nat.reduceEqDiff, reduceCtorEq, Int.reduceBEq, Int.reduceBNe, Nat.reduceBEq]
    exact fin
  | cons y b =>
    simp only [List.isEmpty_cons, Bool.false_eq_true, if_false, List.map_cons] at hc fin ⊢
    simp (disch := first | omega | (simp only [go_sem, List.length_take, List.length_drop] <;> omega) | assumption | decide | fail) only [go_sem, X_foot_PutTypes, c_foot_PutTypes, len6, c0, c1, c2, c3, c4, c5, k0, k1, k2, k3, k4, k5, hf, hc, List.length_map, Nat.reduceLeDiff, Nat.reduceLT, Nat.reduceAdd, Int.reduceAdd, Int.reduceSub, Int.reduceNeg, ↓reduceIte, Nat.reduceEqDiff, reduceCtorEq, Int.reduceBEq, Int.reduceBNe, Nat.reduceBEq]
    exact fin
end Go.Proofs.YtpnhljhciibfnaaGreatDoor
