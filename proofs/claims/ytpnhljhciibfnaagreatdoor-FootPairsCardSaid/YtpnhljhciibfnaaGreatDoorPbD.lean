/- Fields sought by number: the last of a number, all of a number. -/
import Derived.Test.YtpnhljhciibfnaaGreatDoorPbC
namespace Go.Proofs.YtpnhljhciibfnaaGreatDoor
open Go Go.Ev
set_option linter.unusedVariables false
set_option linter.unusedSimpArgs false
set_option maxHeartbeats 4000000

theorem fieldM_b {l : List UInt8} (p : Nat) : (fieldM l p).1.b.length ≤ l.length := by
  unfold fieldM
  simp only
  repeat' split
  all_goals simp [fld0]
  omega
theorem parseN_ok {l : List UInt8} : ∀ (n p : Nat) (acc : List Fld), (∀ f ∈ acc, f.b.length ≤ l.length) → acc.length ≤ 4096 → (∀ f ∈ (parseN l n p acc).1, f.b.length ≤ l.length) ∧ (parseN l n p acc).1.length ≤ 4096
  | 0, p, acc, h, hl => by simp [parseN]
  | n + 1, p, acc, h, hl => by
    rw [parseN]
    split
    · split
      · simp
      · split
        · simp
        · rename_i h2 _
          refine parseN_ok n _ _ ?_ (by simp; omega)
          intro f hf
          rcases List.mem_append.1 hf with hf | hf
          · exact h f hf
          · rw [List.mem_singleton] at hf
            subst hf
            exact fieldM_b p
    · exact ⟨h, hl⟩
theorem parseM_ok (l : List UInt8) : (∀ f ∈ (parseM l).1, f.b.length ≤ l.length) ∧ (parseM l).1.length ≤ 4096 := by
  unfold parseM
  split
  · simp
  · exact parseN_ok _ _ _ (by simp) (by simp)
theorem Backward_ans (es : List D) : evL cfg n_slices_Backward_Spb_Field_pb_Field 0 [.d (.sl es)] [] = some (.clo n_slices_Backward_Spb_Field_pb_Field_1 [] [.d (.ptr (.sl es))], []) := by
  refine evL_of_evFn (n := 1) ?_
  have hx : cfg.ext n_slices_Backward_Spb_Field_pb_Field = some (xSeq n_slices_Backward_Spb_Field_pb_Field_1) := rfl
  simp only [evFn, hx, allD, Option.map_some, Option.bind_some, xSeq]
theorem iter_back : cfg.iter n_slices_Backward_Spb_Field_pb_Field_1 = some (iBackA 5) := rfl
theorem all_agg (fs : List Fld) : (fs.map Fld.d).all (aggN 5) = true := by
  rw [List.all_eq_true]
  intro d hd
  obtain ⟨f, _, rfl⟩ := List.mem_map.1 hd
  rfl
def lastD (o : Option Fld) : V := .d (.tup [(o.getD fld0).d, .bool o.isSome])
def itD (l : List (Int × Fld)) : List (List D) := l.map fun p => [.int .i64 p.1, p.2.d]
def itFrom : Nat → List Fld → List (Int × Fld)
  | _, [] => []
  | i, x :: r => ((i : Int), x) :: itFrom (i + 1) r
theorem itFrom_eq : ∀ (i : Nat) (fs : List Fld), pairsFrom i (fs.map Fld.d) = itD (itFrom i fs)
  | _, [] => rfl
  | i, x :: r => by rw [List.map_cons, pairsFrom, itFrom_eq (i + 1) r]; rfl
theorem itFrom_snd : ∀ (i : Nat) (fs : List Fld), (itFrom i fs).map Prod.snd = fs
  | _, [] => rfl
  | i, x :: r => by rw [itFrom, List.map_cons, itFrom_snd (i + 1) r]
theorem beqN (a b : Nat) : ((a : Int) == (b : Int)) = (a == b) := by
  by_cases h : a = b
  · subst h; simp
  · have h2 : ¬ (a : Int) = b := by omega
    rw [beq_eq_false_iff_ne.2 h, beq_eq_false_iff_ne.2 h2]
theorem pb_last_loop (num wire : Nat) (es : List D) : ∀ (l : List (Int × Fld)),
    goE X_pb_last [12, 13] b_pb_last_3 b_pb_last_6 [(4, .ref 0 4 0), (5, .ref 0 5 0), (6, .ref 0 6 0), (7, .ref 0 7 0), (11, .clo n_slices_Backward_Spb_Field_pb_Field_1 [] [.d (.ptr (.sl es))])] [.b 0, .c (r_pb_last_7.seq .ret)] (itD l)
      [(⟨0, 4, 0⟩, .d (.int .i64 ((num : Int)))), (⟨0, 5, 0⟩, .d (.int .i64 ((wire : Int)))), (⟨0, 6, 0⟩, .d (.int .i64 (0))), (⟨0, 6, 1⟩, .d (.int .i64 (0))), (⟨0, 6, 2⟩, .d (.int .u64 (0))), (⟨0, 6, 3⟩, .d .nilS), (⟨0, 6, 4⟩, .d (.int .i64 (0))), (⟨0, 7, 0⟩, .d (.bool (false)))] =
      some (lastD ((l.map Prod.snd).find? (isF num wire)), [])
  | [] => by
    simp (disch := first | omega | (simp only [go_sem, List.length_take, List.length_drop] <;> omega) | assumption | decide | fail) only [go_sem, X_pb_last, itD, List.map_nil, Nat.reduceLeDiff, Nat.reduceLT, Nat.reduceAdd, Int.reduceAdd, Int.reduceSub, Int.reduceNeg, ↓reduceIte, Nat.reduceEqDiff, reduceCtorEq, Int.reduceBEq, Int.reduceBNe, Nat.reduceBEq]
    rfl
  | x :: l => by
    have ih := pb_last_loop num wire es l
    unfold itD at ih ⊢
    rw [List.map_cons, goE_cons]
    have e1 := beqN x.2.num num
    have e2 := beqN x.2.wire wire
    rw [List.map_cons, List.find?_cons]
    unfold isF
    cases h1 : x.2.num == num with
    | false =>
      rw [h1] at e1
      simp (disch := first | omega | (simp only [go_sem, List.length_take, List.length_drop] <;> omega) | assumption | decide | fail) only [go_sem, X_pb_last, Fld.d, e1, Bool.false_and, Nat.reduceLeDiff, Nat.reduceLT, Nat.reduceAdd, Int.reduceAdd, Int.reduceSub, Int.reduceNeg, ↓reduceIte, Nat.reduceEqDiff, reduceCtorEq, Int.reduceBEq, Int.reduceBNe, Nat.reduceBEq]
      exact ih
    | true =>
      rw [h1] at e1
      cases h2 : x.2.wire == wire with
      | false =>
        rw [h2] at e2
        simp (disch := first | omega | (simp only [go_sem, List.length_take, List.length_drop] <;> omega) | assumption | decide | fail) only [go_sem, X_pb_last, Fld.d, e1, e2, Bool.true_and, Nat.reduceLeDiff, Nat.reduceLT, Nat.reduceAdd, Int.reduceAdd, Int.reduceSub, Int.reduceNeg, ↓reduceIte, Nat.reduceEqDiff, reduceCtorEq, Int.reduceBEq, Int.reduceBNe, Nat.reduceBEq]
        exact ih
      | true =>
        rw [h2] at e2
        simp (disch := first | omega | (simp only [go_sem, List.length_take, List.length_drop] <;> omega) | assumption | decide | fail) only [go_sem, X_pb_last, Fld.d, e1, e2, Bool.true_and, Nat.reduceLeDiff, Nat.reduceLT, Nat.reduceAdd, Int.reduceAdd, Int.reduceSub, Int.reduceNeg, ↓reduceIte, Nat.reduceEqDiff, reduceCtorEq, Int.reduceBEq, Int.reduceBNe, Nat.reduceBEq]
        rfl
theorem back_items (fs : List Fld) (hn : fs.length ≤ 1000000) : iBackA 5 [.ptr (.sl (fs.map Fld.d))] = some (itD (itFrom 0 fs).reverse) := by
  unfold iBackA
  simp only
  rw [if_pos ⟨all_agg fs, by simp; omega⟩, itFrom_eq]
  unfold itD
  rw [List.map_reverse]
theorem pb_last_ans (fs : List Fld) (num wire : Nat) (hn : fs.length ≤ 1000000) : evL cfg n_pb_last 0 [.d (.sl (fs.map Fld.d)), .d (.int .i64 ((num : Int))), .d (.int .i64 ((wire : Int)))] [] = some (lastD (lastM fs num wire), []) := by
  rw [o_pb_last]
  have h := pb_last_loop num wire (fs.map Fld.d) (itFrom 0 fs).reverse
  rw [List.map_reverse, itFrom_snd] at h
  have e := back_items fs hn
  simp (disch := first | omega | (simp only [go_sem, List.length_take, List.length_drop] <;> omega) | assumption | decide | fail) only [go_sem, X_pb_last, c_pb_last, Backward_ans, iter_back, e, Nat.reduceLeDiff, Nat.reduceLT, Nat.reduceAdd, Int.reduceAdd, Int.reduceSub, Int.reduceNeg, ↓reduceIte, Nat.reduceEqDiff, reduceCtorEq, Int.reduceBEq, Int.reduceBNe, Nat.reduceBEq]
  exact h
def uintD (o : Option Fld) : V := .d (.tup [.int .u64 ((o.getD fld0).u : Int), .bool o.isSome])
theorem pb_Uint_ans (fs : List Fld) (num : Nat) (hn : fs.length ≤ 1000000) : evL cfg n_pb_Uint 0 [.d (.sl (fs.map Fld.d)), .d (.int .i64 ((num : Int)))] [] = some (uintD (lastM fs num 0), []) := by
  rw [o_pb_Uint]
  have h := pb_last_ans fs num 0 hn
  rw [show ((0 : Nat) : Int) = 0 from rfl] at h
  simp only [lastD, Fld.d] at h
  unfold uintD
  generalize lastM fs num 0 = o at *
  simp (disch := first | omega | (simp only [go_sem, List.length_take, List.length_drop] <;> omega) | assumption | decide | fail) only [go_sem, X_pb_Uint, c_pb_Uint, h, Nat.reduceLeDiff, Nat.reduceLT, Nat.reduceAdd, Int.reduceAdd, Int.reduceSub, Int.reduceNeg, ↓reduceIte, Nat.reduceEqDiff, reduceCtorEq, Int.reduceBEq, Int.reduceBNe, Nat.reduceBEq]
theorem take5 (a b c d e : D) : List.take 5 [a, b, c, d, e] = [a, b, c, d, e] := rfl
theorem len5 (a b c d e : D) : [a, b, c, d, e].length = 5 := rfl
theorem free_ownZ (k z : Nat) (l : List D) : (ownZ z l).free 0 k = ownZ z l := by cases l <;> rfl
theorem home_ownZ (z : Nat) (l : List D) : (ownZ z l).home 0 = ownZ z l := by cases l <;> rfl
end Go.Proofs.YtpnhljhciibfnaaGreatDoor

