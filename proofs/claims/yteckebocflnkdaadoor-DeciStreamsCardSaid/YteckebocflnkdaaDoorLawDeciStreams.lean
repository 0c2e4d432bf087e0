/- P1101: streams of decimals. -/
import Derived.Test.YteckebocflnkdaaDoorStr
import Derived.Test.YteckebocflnkdaaDoorK
namespace Go.Proofs.YteckebocflnkdaaDoor.deciStreams
open Go Go.Ev
set_option linter.unusedSimpArgs false
set_option linter.unusedVariables false
set_option maxHeartbeats 4000000
theorem law (a0 : List UInt8) (a1 : Int) (a2 : List Int) (w1 : (Lit.int .i64 a1).wf = true) (w2 : ∀ v ∈ a2, (Lit.int .i64 v).wf = true) :
    evL cfg n_ingotlaw11_DeciStreams 0 [.d (.sl ((a0).map byteD)), .d (.int .i64 (a1)), .d (.sl ((a2).map (D.int .i64)))] [] = some (.d (.bool (true)), []) := by
  rw [o_ingotlaw11_DeciStreams]
  rcases Bool.eq_false_or_eq_true (decide ((a0.length : Int) > 1000)) with d_p | d_p <;> have p_p := d_p <;> simp only [decide_eq_true_eq, decide_eq_false_iff_not, beq_iff_eq, beq_eq_false_iff_ne, ne_eq] at p_p 
  · simp (disch := first | omega | (simp only [List.length_append, List.length_cons, List.length_nil, List.length_map, List.length_take, List.length_drop] <;> omega) | assumption | decide | (simp only [List.length_append, List.length_cons, List.length_nil, List.length_map] at * <;> omega) | fail) only [go_sem, wrap_i64, wrap_u64, X_ingotlaw11_DeciStreams, c_ingotlaw11_DeciStreams, known_ok, d_p, Bool.not_true, Bool.not_false, Bool.true_and, Bool.false_and, Bool.and_true, Bool.and_false, Bool.true_or, Bool.false_or, Bool.or_true, Bool.or_false, true_and, and_true, and_self, Nat.reduceLeDiff, Nat.reduceLT, Nat.reduceAdd, Nat.zero_lt_succ, Nat.lt_add_one, Option.some.injEq, Loc.slot.injEq, Int.reduceAdd, Int.reduceSub, Int.reduceMul, Int.reduceNeg, beq_self_eq_true, List.length_cons, List.length_nil, decide_true, decide_false, Bool.and_self, bne_self_eq_false, ↓reduceIte, Nat.reduceEqDiff, reduceCtorEq, Bool.false_eq_true]
  rcases Bool.eq_false_or_eq_true (decide ((a2.length : Int) > 1000)) with d_q | d_q <;> have p_q := d_q <;> simp only [decide_eq_true_eq, decide_eq_false_iff_not, beq_iff_eq, beq_eq_false_iff_ne, ne_eq] at p_q 
  · simp (disch := first | omega | (simp only [List.length_append, List.length_cons, List.length_nil, List.length_map, List.length_take, List.length_drop] <;> omega) | assumption | decide | (simp only [List.length_append, List.length_cons, List.length_nil, List.length_map] at * <;> omega) | fail) only [go_sem, wrap_i64, wrap_u64, X_ingotlaw11_DeciStreams, c_ingotlaw11_DeciStreams, known_ok, d_p, d_q, Bool.not_true, Bool.not_false, Bool.true_and, Bool.false_and, Bool.and_true, Bool.and_false, Bool.true_or, Bool.false_or, Bool.or_true, Bool.or_false, true_and, and_true, and_self, Nat.reduceLeDiff, Nat.reduceLT, Nat.reduceAdd, Nat.zero_lt_succ, Nat.lt_add_one, Option.some.injEq, Loc.slot.injEq, Int.reduceAdd, Int.reduceSub, Int.reduceMul, Int.reduceNeg, beq_self_eq_true, List.length_cons, List.length_nil, decide_true, decide_false, Bool.and_self, bne_self_eq_false, ↓reduceIte, Nat.reduceEqDiff, reduceCtorEq, Bool.false_eq_true]
  have hin : ∀ v ∈ a2, inI v := fun v hv => inI_of (w2 v hv)
  have h1 := deci_Decode_ans (b := a0) (count := a1) (by omega)
  have h2 := ref11_Decode_ans (b := a0) (count := a1) (by omega)
  obtain ⟨r, hr, h3⟩ := deci_Encode_ans (l := a2) (by omega) hin
  have hl := encM_len a2
  have h4 := deci_Decode_ans (b := encM a2) (count := (a2.length : Int)) (by omega)
  have h5 := ref11_Encode_ans (l := a2) (by omega) hin
  have hb : decM (encM a2) (a2.length : Int) = (a2, 0) := by
    unfold decM
    rw [if_neg (by omega), Int.toNat_natCast, decR_back a2 [] hin, List.nil_append]
  rw [hb] at h4
  simp only at h4
  have hlen : (decM a0 a1).1.length ≤ 16384 := by
    unfold decM
    split
    · simp
    · have := (decR_in a1.toNat a0 []).1
      simp at this
      omega
  have h6 := law8_Same_ans (a := (decM a0 a1).1) (b := (decM a0 a1).1) (by omega) (by omega)
  have h7 := law8_Same_ans (a := a2) (b := a2) (by omega) (by omega)
  rw [show ((decM a0 a1).1 == (decM a0 a1).1) = true by simp] at h6
  rw [show (a2 == a2) = true by simp] at h7
  have e1 : (((decM a0 a1).2 : Int) == ((decM a0 a1).2 : Int)) = true := by simp
  have e2 : (encM a2 == encM a2) = true := by simp
  have e3 := bytesOf_map (encM a2)
  cases hE : (encM a2).map byteD with
  | nil =>
    rw [hE] at h4 h5 hr e3
    rw [outV_nil] at h5
    simp (disch := first | omega | (simp only [List.length_append, List.length_cons, List.length_nil, List.length_map, List.length_take, List.length_drop] <;> omega) | assumption | decide | (simp only [List.length_append, List.length_cons, List.length_nil, List.length_map] at * <;> omega) | fail) only [go_sem, wrap_i64, wrap_u64, X_ingotlaw11_DeciStreams, c_ingotlaw11_DeciStreams, known_ok, d_p, d_q, h1, h2, h3, h4, h5, h6, h7, hr, e1, e2, e3, show (((0 : Nat) : Int) == 0) = true by decide, Bool.not_true, Bool.not_false, Bool.true_and, Bool.false_and, Bool.and_true, Bool.and_false, Bool.true_or, Bool.false_or, Bool.or_true, Bool.or_false, true_and, and_true, and_self, Nat.reduceLeDiff, Nat.reduceLT, Nat.reduceAdd, Nat.zero_lt_succ, Nat.lt_add_one, Option.some.injEq, Loc.slot.injEq, Int.reduceAdd, Int.reduceSub, Int.reduceMul, Int.reduceNeg, beq_self_eq_true, List.length_cons, List.length_nil, decide_true, decide_false, Bool.and_self, bne_self_eq_false, ↓reduceIte, Nat.reduceEqDiff, reduceCtorEq, Bool.false_eq_true]
  | cons x y =>
    rw [hE] at h4 h5 hr e3
    rw [outV_cons] at h5
    simp (disch := first | omega | (simp only [List.length_append, List.length_cons, List.length_nil, List.length_map, List.length_take, List.length_drop] <;> omega) | assumption | decide | (simp only [List.length_append, List.length_cons, List.length_nil, List.length_map] at * <;> omega) | fail) only [go_sem, wrap_i64, wrap_u64, X_ingotlaw11_DeciStreams, c_ingotlaw11_DeciStreams, known_ok, d_p, d_q, h1, h2, h3, h4, h5, h6, h7, hr, e1, e2, e3, show (((0 : Nat) : Int) == 0) = true by decide, Bool.not_true, Bool.not_false, Bool.true_and, Bool.false_and, Bool.and_true, Bool.and_false, Bool.true_or, Bool.false_or, Bool.or_true, Bool.or_false, true_and, and_true, and_self, Nat.reduceLeDiff, Nat.reduceLT, Nat.reduceAdd, Nat.zero_lt_succ, Nat.lt_add_one, Option.some.injEq, Loc.slot.injEq, Int.reduceAdd, Int.reduceSub, Int.reduceMul, Int.reduceNeg, beq_self_eq_true, List.length_cons, List.length_nil, decide_true, decide_false, Bool.and_self, bne_self_eq_false, ↓reduceIte, Nat.reduceEqDiff, reduceCtorEq, Bool.false_eq_true]
end Go.Proofs.YteckebocflnkdaaDoor.deciStreams
