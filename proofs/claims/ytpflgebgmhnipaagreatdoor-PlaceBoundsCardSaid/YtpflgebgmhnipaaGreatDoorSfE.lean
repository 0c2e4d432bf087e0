/- A stripe's footer written: the program's writer. -/
import Derived.Test.YtpflgebgmhnipaaGreatDoorSfD
import Derived.Test.YtpflgebgmhnipaaGreatDoorSfC
namespace Go.Proofs.YtpflgebgmhnipaaGreatDoor
open Go Go.Ev
set_option linter.unusedVariables false
set_option linter.unusedSimpArgs false
set_option maxHeartbeats 4000000

abbrev PI := Int × Int × Int
abbrev EI := Int × Int
def inP (p : PI) : Bool := inM p.1 && inM p.2.1 && inM p.2.2
def inE (e : EI) : Bool := inM e.1 && inM e.2
def plB (p : PI) : List UInt8 := bytesF 1 (putFrom 1 [p.1.toNat, p.2.1.toNat, p.2.2.toNat])
def enB (e : EI) : List UInt8 := bytesF 2 (putFrom 1 (if e.2 > 0 then [e.1.toNat, e.2.toNat] else [e.1.toNat]))
/-- bytes that there may be none of yet -/
def bV (l : List UInt8) : V := if l.isEmpty then .d .nilS else .d (.sl ((l).map byteD))
theorem bV_nil : bV [] = .d .nilS := rfl
theorem bV_cons (x : UInt8) (l : List UInt8) : bV (x :: l) = .d (.sl (byteD x :: l.map byteD)) := rfl
theorem home_bV (l : List UInt8) : (bV l).home 0 = bV l := by cases l <;> rfl
theorem free_bV (k : Nat) (l : List UInt8) : (bV l).free 0 k = bV l := by cases l <;> rfl
theorem bV_app (a : List UInt8) (num : Nat) (v : List UInt8) : bV (a ++ bytesF num v) = .d (.sl ((a ++ bytesF num v).map byteD)) := by
  have : (a ++ bytesF num v).isEmpty = false := by
    unfold bytesF
    have h : varB 10 (num * 8 + 2) ≠ [] := by unfold varB; split <;> simp
    cases h2 : varB 10 (num * 8 + 2) with
    | nil => exact absurd h2 h
    | cons x l => simp
  unfold bV
  rw [this]; rfl
def s1 : Bool → List UInt8 → List PI → Bool × List UInt8
  | ok, acc, [] => (ok, acc)
  | ok, acc, p :: r => s1 (ok && inP p) (if (ok && inP p) = true then acc ++ plB p else acc) r
def bx3 (k : Nat) : Option PI → List (Cel × V)
  | none => []
  | some p => [(⟨0, k, 0⟩, .d (.int .i64 (p.1))), (⟨0, k, 1⟩, .d (.int .i64 (p.2.1))), (⟨0, k, 2⟩, .d (.int .i64 (p.2.2)))]
theorem freeM_bx3 (k : Nat) (o : Option PI) : freeM 0 k (bx3 k o) = [] := by
  cases o with
  | none => rfl
  | some f => simp only [bx3, freeM_cons, freeM_nil, true_and, if_true]
theorem settleM_bx3 (k : Nat) (o : Option PI) : settleM 0 (bx3 k o) = bx3 k o := by cases o <;> rfl
theorem in_nat {n : Int} (h : inM n = true) : n = (n.toNat : Int) ∧ n.toNat ≤ 262144 := by
  simp only [inM, Bool.and_eq_true, decide_eq_true_eq] at h
  omega
theorem putFrom_len : ∀ (l : List Nat) (k : Nat), (putFrom k l).length ≤ 20 * l.length
  | [], k => by simp [putFrom]
  | v :: r, k => by
    rw [putFrom, List.length_append, List.length_cons]
    have := uintF_len k v
    have := putFrom_len r (k + 1)
    omega
theorem plB_len (p : PI) : (plB p).length ≤ 80 := by
  unfold plB bytesF
  have := varB_len 10 (1 * 8 + 2)
  have := varB_len 10 (putFrom 1 [p.1.toNat, p.2.1.toNat, p.2.2.toNat]).length
  have := putFrom_len [p.1.toNat, p.2.1.toNat, p.2.2.toNat] 1
  simp only [List.length_cons, List.length_nil] at this
  simp only [List.length_append]; omega
theorem enc_loop1 (ps : List PI) (E : D) (hn : ps.length ≤ 1000000) (K : List Kf) : ∀ (r : List PI) (i : Nat) (ok : Bool) (acc : List UInt8) (o : Option PI), ps.drop i = r → i ≤ ps.length → (ok = true → ps.length ≤ 800) → acc.length ≤ 80 * i → acc.length ≤ 64000 →
    ∃ o', go X_sfoot_Encode (.c (.loop b_sfoot_Encode_10) :: .b 0 :: K) ⟨[(1, .ref 0 1 0), (4, .d (.bool (ok))), (5, bV acc), (22, .d (.sl (ps.map plI))), (23, .d (.int .i64 ((ps.length : Int)))), (24, .d (.int .i64 ((i : Int))))],
        (⟨0, 1, 0⟩, .d (.sl (ps.map plI))) :: (⟨0, 1, 1⟩, .d E) :: bx3 7 o⟩ =
      go X_sfoot_Encode K ⟨[(1, .ref 0 1 0), (4, .d (.bool ((s1 ok acc r).1))), (5, bV (s1 ok acc r).2), (22, .d (.sl (ps.map plI))), (23, .d (.int .i64 ((ps.length : Int)))), (24, .d (.int .i64 ((ps.length : Int)))), (25, .d (.bool (false)))],
        (⟨0, 1, 0⟩, .d (.sl (ps.map plI))) :: (⟨0, 1, 1⟩, .d E) :: bx3 7 o'⟩
  | [], i, ok, acc, o, hr, hi, hp, ha, ha2 => by
    have := dropEnd hr
    have : i = ps.length := by omega
    subst this
    have d_a : decide ((ps.length : Int) < ps.length) = false := by simp <;> omega
    refine ⟨o, ?_⟩
    rw [go_loop, s1]
    simp (disch := first | omega | (simp only [go_sem, List.length_take, List.length_drop] <;> omega) | assumption | decide | fail) only [go_sem, X_sfoot_Encode, d_a, home_bV, settleM_bx3, Nat.reduceLeDiff, Nat.reduceLT, Nat.reduceAdd, Int.reduceAdd, Int.reduceSub, Int.reduceNeg, ↓reduceIte, Nat.reduceEqDiff, reduceCtorEq, Int.reduceBEq, Int.reduceBNe, Nat.reduceBEq]
  | x :: r, i, ok, acc, o, hr, hi, hp, ha, ha2 => by
    obtain ⟨h1, h2, h3⟩ := dropAt hr
    have d_a : decide ((i : Int) < ps.length) = true := by simp <;> omega
    have hin := sfoot_in_ans [x.1, x.2.1, x.2.2] (by simp)
    simp only [List.map_cons, List.map_nil, List.all_cons, List.all_nil, Bool.and_true] at hin
    rw [← Bool.and_assoc] at hin
    rw [s1]
    have ih := fun ok acc => enc_loop1 ps E hn K r (i + 1) ok acc (some x) h3 h1
    rw [show (((i + 1 : Nat)) : Int) = (i : Int) + 1 by omega] at ih
    have hinP : inP x = (inM x.1 && inM x.2.1 && inM x.2.2) := rfl
    rw [← hinP] at hin
    cases ok with
    | false =>
      obtain ⟨o', ih⟩ := ih false acc (by simp) (by omega) ha2
      refine ⟨o', ?_⟩
      simp only [Bool.false_and, Bool.false_eq_true, if_false]
      rw [← ih, go_loop]
      simp (disch := first | omega | (simp only [go_sem, List.length_take, List.length_drop] <;> omega) | assumption | decide | fail) only [go_sem, X_sfoot_Encode, d_a, home_bV, free_bV, settleM_bx3, freeM_bx3, evIdx_sl, Int.toNat_natCast, List.getElem?_map, h2, Option.map_some, plI, take3', len3', Nat.reduceLeDiff, Nat.reduceLT, Nat.reduceAdd, Int.reduceAdd, Int.reduceSub, Int.reduceNeg, ↓reduceIte, Nat.reduceEqDiff, reduceCtorEq, Int.reduceBEq, Int.reduceBNe, Nat.reduceBEq]
      rfl
    | true =>
      cases hx : inP x with
      | false =>
        rw [hx] at hin
        obtain ⟨o', ih⟩ := ih false acc (by simp) (by omega) ha2
        refine ⟨o', ?_⟩
        simp only [Bool.true_and, Bool.false_eq_true, if_false]
        rw [← ih, go_loop]
        simp (disch := first | omega | (simp only [go_sem, List.length_take, List.length_drop] <;> omega) | assumption | decide | fail) only [go_sem, X_sfoot_Encode, d_a, home_bV, free_bV, settleM_bx3, freeM_bx3, evIdx_sl, Int.toNat_natCast, List.getElem?_map, h2, Option.map_some, plI, take3', len3', hin, Nat.reduceLeDiff, Nat.reduceLT, Nat.reduceAdd, Int.reduceAdd, Int.reduceSub, Int.reduceNeg, ↓reduceIte, Nat.reduceEqDiff, reduceCtorEq, Int.reduceBEq, Int.reduceBNe, Nat.reduceBEq]
        rfl
      | true =>
        rw [hx] at hin
        have hp8 := hp rfl
        have hx' := hx
        simp only [inP, Bool.and_eq_true] at hx'
        obtain ⟨⟨g1, g2⟩, g3⟩ := hx'
        obtain ⟨a1, c1⟩ := in_nat g1
        obtain ⟨a2, c2⟩ := in_nat g2
        obtain ⟨a3, c3⟩ := in_nat g3
        have hle := plB_len x
        have hpu := sfoot_put_ans x.1.toNat [x.2.1.toNat, x.2.2.toNat] (by simp; omega) (by simp)
        rw [show natI [x.1.toNat, x.2.1.toNat, x.2.2.toNat] = [x.1, x.2.1, x.2.2] by simp only [natI, List.map_cons, List.map_nil]; rw [show Int.ofNat x.1.toNat = x.1 from a1.symm, show Int.ofNat x.2.1.toNat = x.2.1 from a2.symm, show Int.ofNat x.2.2.toNat = x.2.2 from a3.symm]] at hpu
        simp only [List.map_cons, List.map_nil] at hpu
        have hle2 := putFrom_len [x.1.toNat, x.2.1.toNat, x.2.2.toNat] 1
        simp only [List.length_cons, List.length_nil] at hle2
        have hpb := pb_PutBytes_ans (b := acc) (v := putFrom 1 [x.1.toNat, x.2.1.toNat, x.2.2.toNat]) (num := 1) (by omega) (by omega) (by omega) (by omega)
        rw [show ((1 : Nat) : Int) = 1 from rfl] at hpb
        obtain ⟨o', ih⟩ := ih true (acc ++ plB x) (fun _ => hp8) (by rw [List.length_append]; omega) (by rw [List.length_append]; omega)
        refine ⟨o', ?_⟩
        simp only [Bool.true_and, if_true]
        rw [← ih, go_loop]
        unfold plB at ih ⊢
        rw [bV_app]
        generalize putFrom 1 [x.1.toNat, x.2.1.toNat, x.2.2.toNat] = q at *
        cases acc with
        | nil =>
          rw [List.nil_append] at hpb ⊢
          rw [List.map_nil] at hpb
          simp (disch := first | omega | (simp only [go_sem, List.length_take, List.length_drop] <;> omega) | assumption | decide | fail) only [go_sem, X_sfoot_Encode, d_a, bV_nil, settleM_bx3, freeM_bx3, evIdx_sl, Int.toNat_natCast, List.getElem?_map, h2, Option.map_some, plI, take3', len3', hin, hpu, hpb, Nat.reduceLeDiff, Nat.reduceLT, Nat.reduceAdd, Int.reduceAdd, Int.reduceSub, Int.reduceNeg, ↓reduceIte, Nat.reduceEqDiff, reduceCtorEq, Int.reduceBEq, Int.reduceBNe, Nat.reduceBEq]
          rfl
        | cons y acc =>
          rw [List.map_cons] at hpb
          simp (disch := first | omega | (simp only [go_sem, List.length_take, List.length_drop] <;> omega) | assumption | decide | fail) only [go_sem, X_sfoot_Encode, d_a, bV_cons, settleM_bx3, freeM_bx3, evIdx_sl, Int.toNat_natCast, List.getElem?_map, h2, Option.map_some, plI, take3', len3', hin, hpu, hpb, Nat.reduceLeDiff, Nat.reduceLT, Nat.reduceAdd, Int.reduceAdd, Int.reduceSub, Int.reduceNeg, ↓reduceIte, Nat.reduceEqDiff, reduceCtorEq, Int.reduceBEq, Int.reduceBNe, Nat.reduceBEq]
          rfl
end Go.Proofs.YtpflgebgmhnipaaGreatDoor
