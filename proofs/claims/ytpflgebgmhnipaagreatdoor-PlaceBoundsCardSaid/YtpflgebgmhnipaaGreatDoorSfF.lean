/- A stripe's footer written: the program's writer, all of it. -/
import Derived.Test.YtpflgebgmhnipaaGreatDoorSfE
namespace Go.Proofs.YtpflgebgmhnipaaGreatDoor
open Go Go.Ev
set_option linter.unusedVariables false
set_option linter.unusedSimpArgs false
set_option maxHeartbeats 4000000

def bx2 (k : Nat) : Option EI → List (Cel × V)
  | none => []
  | some p => [(⟨0, k, 0⟩, .d (.int .i64 (p.1))), (⟨0, k, 1⟩, .d (.int .i64 (p.2)))]
theorem freeM_bx2 (k : Nat) (o : Option EI) : freeM 0 k (bx2 k o) = [] := by
  cases o with
  | none => rfl
  | some f => simp only [bx2, freeM_cons, freeM_nil, true_and, if_true]
theorem settleM_bx2 (k : Nat) (o : Option EI) : settleM 0 (bx2 k o) = bx2 k o := by cases o <;> rfl
def s2 : Bool → List UInt8 → List EI → Bool × List UInt8
  | ok, acc, [] => (ok, acc)
  | ok, acc, e :: r => if (ok && inE e) = true then s2 true (acc ++ enB e) r else (false, acc)
def utc : List UInt8 := [85, 84, 67]
def encD (r : Bool × List UInt8) : V := if r.1 = false then .d (.tup [.sl [], .int .i64 1]) else
  if (r.2 ++ bytesF 3 utc).length > 65536 then .d (.tup [.sl [], .int .i64 4]) else .d (.tup [.sl ((r.2 ++ bytesF 3 utc).map byteD), .int .i64 0])
theorem putUtc {acc : List UInt8} (h : acc.length ≤ 300000) : evL cfg n_pb_PutBytes 0 [.d (.sl ((acc).map byteD)), .d (.int .i64 (3)), .d (.sl [.int .u8 85, .int .u8 84, .int .u8 67])] [] = some (.own false 1 ((acc ++ bytesF 3 utc).map byteD), []) :=
  pb_PutBytes_ans (b := acc) (v := utc) (num := 3) (by omega) (by omega) (by omega) (by simp [utc])
theorem bytesF_le (num : Nat) (v : List UInt8) : (bytesF num v).length ≤ 20 + v.length := by
  unfold bytesF
  have := varB_len 10 (num * 8 + 2)
  have := varB_len 10 v.length
  simp only [List.length_append]; omega
theorem enB_len (e : EI) : (enB e).length ≤ 60 := by
  unfold enB
  have h := bytesF_le 2 (putFrom 1 (if e.2 > 0 then [e.1.toNat, e.2.toNat] else [e.1.toNat]))
  have h2 := putFrom_len (if e.2 > 0 then [e.1.toNat, e.2.toNat] else [e.1.toNat]) 1
  have h3 : (if e.2 > 0 then [e.1.toNat, e.2.toNat] else [e.1.toNat]).length ≤ 2 := by split <;> simp
  omega
abbrev encK : List Kf := [.c (.seq r_sfoot_Encode_22 (.seq (.block 4 (.seq r_sfoot_Encode_23 (.cond (.t 90) (.seq r_sfoot_Encode_24 .ret) (.seq r_sfoot_Encode_25 (.cond (.t 93) (.seq r_sfoot_Encode_26 .ret) .skip))))) (.seq r_sfoot_Encode_27 .ret)))]
theorem enc_tail (E : List (Nat × V)) (ok : Bool) (acc : List UInt8) (P Q : D) (o7 : Option PI) (o : Option EI) (ha : acc.length ≤ 100000)
    (hE : E = [(52, .d Q), (53, .d (.int .i64 (0))), (54, .d (.int .i64 (0)))] ∨ True) (n i : Int) (es : D) :
    go X_sfoot_Encode encK ⟨[(4, .d (.bool (ok))), (5, bV acc), (52, .d es), (53, .d (.int .i64 (n))), (54, .d (.int .i64 (i))), (55, .d (.bool (false)))], (⟨0, 1, 0⟩, .d P) :: (⟨0, 1, 1⟩, .d Q) :: (bx3 7 o7 ++ bx2 9 o)⟩ = some (encD (ok, acc), []) := by
  have hl : ((acc ++ bytesF 3 utc).map byteD).length ≤ 200000 := by
    have := bytesF_le 3 utc
    simp only [List.length_map, List.length_append]
    simp only [utc, List.length_cons, List.length_nil] at this ⊢
    omega
  have hp := putUtc (acc := acc) (by omega)
  unfold encD encK
  simp only
  have hlm : ((acc ++ bytesF 3 utc).map byteD).length = (acc ++ bytesF 3 utc).length := List.length_map ..
  generalize (acc ++ bytesF 3 utc) = q at *
  generalize hq : q.map byteD = q' at *
  have hs : settleM 0 (bx3 7 o7 ++ bx2 9 o) = bx3 7 o7 ++ bx2 9 o := by cases o7 <;> cases o <;> rfl
  have hv : leaveM 0 (bx3 7 o7 ++ bx2 9 o) = [] := by cases o7 <;> cases o <;> rfl
  generalize bx3 7 o7 ++ bx2 9 o = T at *
  cases ok with
  | false =>
    rw [if_pos rfl]
    cases acc with
    | nil =>
      rw [List.map_nil] at hp
      simp (disch := first | omega | (simp only [go_sem, List.length_take, List.length_drop] <;> omega) | assumption | decide | fail) only [go_sem, X_sfoot_Encode, bV_nil, hs, hv, hp, Nat.reduceLeDiff, Nat.reduceLT, Nat.reduceAdd, Int.reduceAdd, Int.reduceSub, Int.reduceNeg, ↓reduceIte, Nat.reduceEqDiff, reduceCtorEq, Int.reduceBEq, Int.reduceBNe, Nat.reduceBEq]
    | cons y acc =>
      rw [List.map_cons] at hp
      simp (disch := first | omega | (simp only [go_sem, List.length_take, List.length_drop] <;> omega) | assumption | decide | fail) only [go_sem, X_sfoot_Encode, bV_cons, hs, hv, hp, Nat.reduceLeDiff, Nat.reduceLT, Nat.reduceAdd, Int.reduceAdd, Int.reduceSub, Int.reduceNeg, ↓reduceIte, Nat.reduceEqDiff, reduceCtorEq, Int.reduceBEq, Int.reduceBNe, Nat.reduceBEq]
  | true =>
    rw [if_neg (by simp)]
    by_cases hb : q.length > 65536
    · rw [if_pos hb]
      have d_a : decide ((q'.length : Int) > 65536) = true := by simp <;> omega
      cases acc with
      | nil =>
        rw [List.map_nil] at hp
        simp (disch := first | omega | (simp only [go_sem, List.length_take, List.length_drop] <;> omega) | assumption | decide | fail) only [go_sem, X_sfoot_Encode, bV_nil, hs, hv, hp, d_a, Nat.reduceLeDiff, Nat.reduceLT, Nat.reduceAdd, Int.reduceAdd, Int.reduceSub, Int.reduceNeg, ↓reduceIte, Nat.reduceEqDiff, reduceCtorEq, Int.reduceBEq, Int.reduceBNe, Nat.reduceBEq]
      | cons y acc =>
        rw [List.map_cons] at hp
        simp (disch := first | omega | (simp only [go_sem, List.length_take, List.length_drop] <;> omega) | assumption | decide | fail) only [go_sem, X_sfoot_Encode, bV_cons, hs, hv, hp, d_a, Nat.reduceLeDiff, Nat.reduceLT, Nat.reduceAdd, Int.reduceAdd, Int.reduceSub, Int.reduceNeg, ↓reduceIte, Nat.reduceEqDiff, reduceCtorEq, Int.reduceBEq, Int.reduceBNe, Nat.reduceBEq]
    · rw [if_neg hb]
      have d_a : decide ((q'.length : Int) > 65536) = false := by simp <;> omega
      cases acc with
      | nil =>
        rw [List.map_nil] at hp
        simp (disch := first | omega | (simp only [go_sem, List.length_take, List.length_drop] <;> omega) | assumption | decide | fail) only [go_sem, X_sfoot_Encode, bV_nil, hs, hv, hp, d_a, Nat.reduceLeDiff, Nat.reduceLT, Nat.reduceAdd, Int.reduceAdd, Int.reduceSub, Int.reduceNeg, ↓reduceIte, Nat.reduceEqDiff, reduceCtorEq, Int.reduceBEq, Int.reduceBNe, Nat.reduceBEq]
      | cons y acc =>
        rw [List.map_cons] at hp
        simp (disch := first | omega | (simp only [go_sem, List.length_take, List.length_drop] <;> omega) | assumption | decide | fail) only [go_sem, X_sfoot_Encode, bV_cons, hs, hv, hp, d_a, Nat.reduceLeDiff, Nat.reduceLT, Nat.reduceAdd, Int.reduceAdd, Int.reduceSub, Int.reduceNeg, ↓reduceIte, Nat.reduceEqDiff, reduceCtorEq, Int.reduceBEq, Int.reduceBNe, Nat.reduceBEq]
/-- the way out when something may not be -/
theorem enc_out (acc : List UInt8) (P Q es : D) (n i : Int) (T : List (Cel × V)) (hs : settleM 0 T = T) (hv : leaveM 0 T = []) (ha : acc.length ≤ 100000) :
    go X_sfoot_Encode encK ⟨[(4, .d (.bool (false))), (5, bV acc), (9, .ref 0 9 0), (52, .d es), (53, .d (.int .i64 (n))), (54, .d (.int .i64 (i))), (68, .d (.bool (true)))], (⟨0, 1, 0⟩, .d P) :: (⟨0, 1, 1⟩, .d Q) :: T⟩ = some (encD (false, acc), []) := by
  have hp := putUtc (acc := acc) (by omega)
  unfold encD encK
  rw [if_pos rfl]
  generalize ((acc ++ bytesF 3 utc)).map byteD = q at *
  cases acc with
  | nil =>
    rw [List.map_nil] at hp
    simp (disch := first | omega | (simp only [go_sem, List.length_take, List.length_drop] <;> omega) | assumption | decide | fail) only [go_sem, X_sfoot_Encode, bV_nil, hs, hv, hp, Nat.reduceLeDiff, Nat.reduceLT, Nat.reduceAdd, Int.reduceAdd, Int.reduceSub, Int.reduceNeg, ↓reduceIte, Nat.reduceEqDiff, reduceCtorEq, Int.reduceBEq, Int.reduceBNe, Nat.reduceBEq]
  | cons y acc =>
    rw [List.map_cons] at hp
    simp (disch := first | omega | (simp only [go_sem, List.length_take, List.length_drop] <;> omega) | assumption | decide | fail) only [go_sem, X_sfoot_Encode, bV_cons, hs, hv, hp, Nat.reduceLeDiff, Nat.reduceLT, Nat.reduceAdd, Int.reduceAdd, Int.reduceSub, Int.reduceNeg, ↓reduceIte, Nat.reduceEqDiff, reduceCtorEq, Int.reduceBEq, Int.reduceBNe, Nat.reduceBEq]
theorem take2e (a b : D) : List.take 2 [a, b] = [a, b] := rfl
theorem enc_loop2 (P : D) (es : List EI) (hn : es.length ≤ 1000000) (o7 : Option PI) : ∀ (r : List EI) (i : Nat) (ok : Bool) (acc : List UInt8) (o : Option EI), es.drop i = r → i ≤ es.length → (ok = true → es.length ≤ 100) → acc.length ≤ 64000 + 60 * i → acc.length ≤ 70000 →
    go X_sfoot_Encode (.c (.loop b_sfoot_Encode_21) :: .b 2 :: encK) ⟨[(4, .d (.bool (ok))), (5, bV acc), (52, .d (.sl (es.map enI))), (53, .d (.int .i64 ((es.length : Int)))), (54, .d (.int .i64 ((i : Int))))], (⟨0, 1, 0⟩, .d P) :: (⟨0, 1, 1⟩, .d (.sl (es.map enI))) :: (bx3 7 o7 ++ bx2 9 o)⟩ =
      some (encD (s2 ok acc r), [])
  | [], i, ok, acc, o, hr, hi, hp, ha, ha2 => by
    have := dropEnd hr
    have d_a : decide ((i : Int) < es.length) = false := by simp <;> omega
    have h := enc_tail [] ok acc P (.sl (es.map enI)) o7 o (by omega) (.inr trivial) es.length i (.sl (es.map enI))
    have hs : settleM 0 (bx3 7 o7 ++ bx2 9 o) = bx3 7 o7 ++ bx2 9 o := by cases o7 <;> cases o <;> rfl
    rw [s2]
    generalize encK = K at h ⊢
    rw [go_loop]
    simp (disch := first | omega | (simp only [go_sem, List.length_take, List.length_drop] <;> omega) | assumption | decide | fail) only [go_sem, X_sfoot_Encode, d_a, home_bV, hs, Nat.reduceLeDiff, Nat.reduceLT, Nat.reduceAdd, Int.reduceAdd, Int.reduceSub, Int.reduceNeg, ↓reduceIte, Nat.reduceEqDiff, reduceCtorEq, Int.reduceBEq, Int.reduceBNe, Nat.reduceBEq]
    exact h
  | x :: r, i, ok, acc, o, hr, hi, hp, ha, ha2 => by
    obtain ⟨h1, h2, h3⟩ := dropAt hr
    have d_a : decide ((i : Int) < es.length) = true := by simp <;> omega
    have hin := sfoot_in_ans [x.1, x.2] (by simp)
    simp only [List.map_cons, List.map_nil, List.all_cons, List.all_nil, Bool.and_true] at hin
    have hinE : inE x = (inM x.1 && inM x.2) := rfl
    rw [← hinE] at hin
    rw [s2]
    cases hok : (ok && inE x) with
    | false =>
      simp only [Bool.false_eq_true, if_false]
      have h := enc_out acc P (.sl (es.map enI)) (.sl (es.map enI)) es.length i (bx3 7 o7 ++ bx2 9 (some x)) (by cases o7 <;> rfl) (by cases o7 <;> rfl) (by omega)
      generalize encK = K at h ⊢
      rw [go_loop]
      cases ok with
      | false =>
        cases o7 <;> (
          simp only [bx3, List.nil_append, List.cons_append] at h ⊢
          simp (disch := first | omega | (simp only [go_sem, List.length_take, List.length_drop] <;> omega) | assumption | decide | fail) only [go_sem, X_sfoot_Encode, d_a, home_bV, free_bV, settleM_bx2, freeM_bx2, evIdx_sl, Int.toNat_natCast, List.getElem?_map, h2, Option.map_some, enI, take2e, len2', Nat.reduceLeDiff, Nat.reduceLT, Nat.reduceAdd, Int.reduceAdd, Int.reduceSub, Int.reduceNeg, ↓reduceIte, Nat.reduceEqDiff, reduceCtorEq, Int.reduceBEq, Int.reduceBNe, Nat.reduceBEq]
          exact h)
      | true =>
        rw [Bool.true_and] at hok
        rw [hok] at hin
        cases o7 <;> (
          simp only [bx3, List.nil_append, List.cons_append] at h ⊢
          simp (disch := first | omega | (simp only [go_sem, List.length_take, List.length_drop] <;> omega) | assumption | decide | fail) only [go_sem, X_sfoot_Encode, d_a, home_bV, free_bV, settleM_bx2, freeM_bx2, evIdx_sl, Int.toNat_natCast, List.getElem?_map, h2, Option.map_some, enI, take2e, len2', hin, Nat.reduceLeDiff, Nat.reduceLT, Nat.reduceAdd, Int.reduceAdd, Int.reduceSub, Int.reduceNeg, ↓reduceIte, Nat.reduceEqDiff, reduceCtorEq, Int.reduceBEq, Int.reduceBNe, Nat.reduceBEq]
          exact h)
    | true =>
      simp only [if_true]
      rw [Bool.and_eq_true] at hok
      obtain ⟨rfl, hx⟩ := hok
      rw [hx] at hin
      have hp8 := hp rfl
      have hx' := hx
      simp only [inE, Bool.and_eq_true] at hx'
      obtain ⟨g1, g2⟩ := hx'
      obtain ⟨a1, c1⟩ := in_nat g1
      obtain ⟨a2, c2⟩ := in_nat g2
      have hle := enB_len x
      have ih := enc_loop2 P es hn o7 r (i + 1) true (acc ++ enB x) (some x) h3 h1 (fun _ => hp8) (by rw [List.length_append]; omega) (by rw [List.length_append]; omega)
      rw [show (((i + 1 : Nat)) : Int) = (i : Int) + 1 by omega] at ih
      rw [← ih]
      clear ih
      have hpu1 := sfoot_put_ans x.1.toNat [] (by simp; omega) (by simp)
      have hpu2 := sfoot_put_ans x.1.toNat [x.2.toNat] (by simp; omega) (by simp)
      rw [show natI [x.1.toNat] = [x.1] by simp only [natI, List.map_cons, List.map_nil]; rw [show Int.ofNat x.1.toNat = x.1 from a1.symm]] at hpu1
      rw [show natI [x.1.toNat, x.2.toNat] = [x.1, x.2] by simp only [natI, List.map_cons, List.map_nil]; rw [show Int.ofNat x.1.toNat = x.1 from a1.symm, show Int.ofNat x.2.toNat = x.2 from a2.symm]] at hpu2
      simp only [List.map_cons, List.map_nil] at hpu1 hpu2
      unfold enB
      rw [bV_app]
      generalize encK = K
      by_cases hz : x.2 > 0
      · have d_b : decide (x.2 > 0) = true := by simp <;> omega
        rw [if_pos hz]
        have hle2 := putFrom_len [x.1.toNat, x.2.toNat] 1
        simp only [List.length_cons, List.length_nil] at hle2
        have hpb := pb_PutBytes_ans (b := acc) (v := putFrom 1 [x.1.toNat, x.2.toNat]) (num := 2) (by omega) (by omega) (by omega) (by omega)
        rw [show ((2 : Nat) : Int) = 2 from rfl] at hpb
        generalize putFrom 1 [x.1.toNat, x.2.toNat] = q at *
        rw [go_loop]
        cases acc with
        | nil =>
          rw [List.nil_append] at hpb ⊢
          rw [List.map_nil] at hpb
          cases o7 <;> (
            simp only [bx3, List.nil_append, List.cons_append]
            simp (disch := first | omega | (simp only [go_sem, List.length_take, List.length_drop] <;> omega) | assumption | decide | fail) only [go_sem, X_sfoot_Encode, d_a, bV_nil, settleM_bx2, freeM_bx2, evIdx_sl, Int.toNat_natCast, List.getElem?_map, h2, Option.map_some, enI, take2e, len2', hin, d_b, hpu1, hpu2, hpb, Nat.reduceLeDiff, Nat.reduceLT, Nat.reduceAdd, Int.reduceAdd, Int.reduceSub, Int.reduceNeg, ↓reduceIte, Nat.reduceEqDiff, reduceCtorEq, Int.reduceBEq, Int.reduceBNe, Nat.reduceBEq]
            rfl)
        | cons y acc =>
          rw [List.map_cons] at hpb
          cases o7 <;> (
            simp only [bx3, List.nil_append, List.cons_append]
            simp (disch := first | omega | (simp only [go_sem, List.length_take, List.length_drop] <;> omega) | assumption | decide | fail) only [go_sem, X_sfoot_Encode, d_a, bV_cons, settleM_bx2, freeM_bx2, evIdx_sl, Int.toNat_natCast, List.getElem?_map, h2, Option.map_some, enI, take2e, len2', hin, d_b, hpu1, hpu2, hpb, Nat.reduceLeDiff, Nat.reduceLT, Nat.reduceAdd, Int.reduceAdd, Int.reduceSub, Int.reduceNeg, ↓reduceIte, Nat.reduceEqDiff, reduceCtorEq, Int.reduceBEq, Int.reduceBNe, Nat.reduceBEq]
            rfl)
      · have d_b : decide (x.2 > 0) = false := by simp <;> omega
        rw [if_neg hz]
        have hle2 := putFrom_len [x.1.toNat] 1
        simp only [List.length_cons, List.length_nil] at hle2
        have hpb := pb_PutBytes_ans (b := acc) (v := putFrom 1 [x.1.toNat]) (num := 2) (by omega) (by omega) (by omega) (by omega)
        rw [show ((2 : Nat) : Int) = 2 from rfl] at hpb
        generalize putFrom 1 [x.1.toNat] = q at *
        rw [go_loop]
        cases acc with
        | nil =>
          rw [List.nil_append] at hpb ⊢
          rw [List.map_nil] at hpb
          cases o7 <;> (
            simp only [bx3, List.nil_append, List.cons_append]
            simp (disch := first | omega | (simp only [go_sem, List.length_take, List.length_drop] <;> omega) | assumption | decide | fail) only [go_sem, X_sfoot_Encode, d_a, bV_nil, settleM_bx2, freeM_bx2, evIdx_sl, Int.toNat_natCast, List.getElem?_map, h2, Option.map_some, enI, take2e, len2', hin, d_b, hpu1, hpb, Nat.reduceLeDiff, Nat.reduceLT, Nat.reduceAdd, Int.reduceAdd, Int.reduceSub, Int.reduceNeg, ↓reduceIte, Nat.reduceEqDiff, reduceCtorEq, Int.reduceBEq, Int.reduceBNe, Nat.reduceBEq]
            rfl)
        | cons y acc =>
          rw [List.map_cons] at hpb
          cases o7 <;> (
            simp only [bx3, List.nil_append, List.cons_append]
            simp (disch := first | omega | (simp only [go_sem, List.length_take, List.length_drop] <;> omega) | assumption | decide | fail) only [go_sem, X_sfoot_Encode, d_a, bV_cons, settleM_bx2, freeM_bx2, evIdx_sl, Int.toNat_natCast, List.getElem?_map, h2, Option.map_some, enI, take2e, len2', hin, d_b, hpu1, hpb, Nat.reduceLeDiff, Nat.reduceLT, Nat.reduceAdd, Int.reduceAdd, Int.reduceSub, Int.reduceNeg, ↓reduceIte, Nat.reduceEqDiff, reduceCtorEq, Int.reduceBEq, Int.reduceBNe, Nat.reduceBEq]
            rfl)
def encM (ps : List PI) (es : List EI) : Bool × List UInt8 :=
  let r := s1 (decide (ps.length ≤ 800) && decide (es.length ≤ 100)) [] ps
  s2 r.1 r.2 es
theorem s1_len : ∀ (r : List PI) (ok : Bool) (acc : List UInt8), (s1 ok acc r).2.length ≤ acc.length + 80 * r.length ∧ (ok = false → s1 ok acc r = (false, acc)) ∧ ((s1 ok acc r).1 = true → ok = true)
  | [], ok, acc => by
    simp only [s1, List.length_nil]
    refine ⟨by omega, fun h => by rw [h], fun h => h⟩
  | p :: r, ok, acc => by
    simp only [s1, List.length_cons]
    obtain ⟨g1, g2, g3⟩ := s1_len r (ok && inP p) (if (ok && inP p) = true then acc ++ plB p else acc)
    refine ⟨?_, fun h => ?_, fun h => ?_⟩
    · refine Nat.le_trans g1 ?_
      have := plB_len p
      split
      · rw [List.length_append]; omega
      · omega
    · subst h
      have := g2 (by rw [Bool.false_and])
      rw [Bool.false_and] at this ⊢
      exact this
    · have := g3 h
      rw [Bool.and_eq_true] at this
      exact this.1
theorem sfoot_Encode_ans (ps : List PI) (es : List EI) (hp : ps.length ≤ 1000000) (he : es.length ≤ 1000000) : evL cfg n_sfoot_Encode 0 [.d (fI ps es)] [] = some (encD (encM ps es), []) := by
  rw [o_sfoot_Encode]
  unfold fI encM
  simp only
  have d1 : decide ((ps.length : Int) ≤ 800) = decide (ps.length ≤ 800) := by
    by_cases h : ps.length ≤ 800
    · rw [decide_eq_true h, decide_eq_true (by omega)]
    · rw [decide_eq_false h, decide_eq_false (by omega)]
  have d2 : decide ((es.length : Int) ≤ 100) = decide (es.length ≤ 100) := by
    by_cases h : es.length ≤ 100
    · rw [decide_eq_true h, decide_eq_true (by omega)]
    · rw [decide_eq_false h, decide_eq_false (by omega)]
  have key : ∀ ok0 : Bool, (ok0 = true → ps.length ≤ 800 ∧ es.length ≤ 100) →
      go X_sfoot_Encode (.c (.loop b_sfoot_Encode_10) :: .b 0 :: .c (.seq (.seq r_sfoot_Encode_11 (.block 2 (.loop b_sfoot_Encode_21))) (.seq r_sfoot_Encode_22 (.seq (.block 4 (.seq r_sfoot_Encode_23 (.cond (.t 90) (.seq r_sfoot_Encode_24 .ret) (.seq r_sfoot_Encode_25 (.cond (.t 93) (.seq r_sfoot_Encode_26 .ret) .skip))))) (.seq r_sfoot_Encode_27 .ret)))) :: [])
        ⟨[(1, .ref 0 1 0), (4, .d (.bool (ok0))), (5, .d .nilS), (22, .d (.sl (ps.map plI))), (23, .d (.int .i64 ((ps.length : Int)))), (24, .d (.int .i64 (0)))], [(⟨0, 1, 0⟩, .d (.sl (ps.map plI))), (⟨0, 1, 1⟩, .d (.sl (es.map enI)))]⟩ =
      some (encD (s2 (s1 ok0 [] ps).1 (s1 ok0 [] ps).2 es), []) := fun ok0 h0 => by
    obtain ⟨o', h⟩ := enc_loop1 ps (.sl (es.map enI)) hp (.c (.seq (.seq r_sfoot_Encode_11 (.block 2 (.loop b_sfoot_Encode_21))) (.seq r_sfoot_Encode_22 (.seq (.block 4 (.seq r_sfoot_Encode_23 (.cond (.t 90) (.seq r_sfoot_Encode_24 .ret) (.seq r_sfoot_Encode_25 (.cond (.t 93) (.seq r_sfoot_Encode_26 .ret) .skip))))) (.seq r_sfoot_Encode_27 .ret)))) :: []) ps 0 ok0 [] none rfl (Nat.zero_le _) (fun h => (h0 h).1) (by simp) (by simp)
    obtain ⟨g1, g2, g3⟩ := s1_len ps ok0 []
    refine h.trans ?_
    have hl : (s1 ok0 [] ps).2.length ≤ 64000 := by
      cases ok0 with
      | false => rw [g2 rfl]; simp
      | true => have := (h0 rfl).1; simp only [List.length_nil] at g1; omega
    have h2 := enc_loop2 (.sl (ps.map plI)) es he o' es 0 (s1 ok0 [] ps).1 (s1 ok0 [] ps).2 none rfl (Nat.zero_le _) (fun h => (h0 (g3 h)).2) (by omega) (by omega)
    generalize s1 ok0 [] ps = q at *
    obtain ⟨q1, q2⟩ := q
    simp only [bx2, List.append_nil] at h2 ⊢
    unfold encK at h2
    generalize (ICode.seq r_sfoot_Encode_22 (.seq (.block 4 (.seq r_sfoot_Encode_23 (.cond (.t 90) (.seq r_sfoot_Encode_24 .ret) (.seq r_sfoot_Encode_25 (.cond (.t 93) (.seq r_sfoot_Encode_26 .ret) .skip))))) (.seq r_sfoot_Encode_27 .ret))) = c at *
    simp (disch := first | omega | (simp only [go_sem, List.length_take, List.length_drop] <;> omega) | assumption | decide | fail) only [go_sem, X_sfoot_Encode, home_bV, settleM_bx3, List.length_map, Nat.reduceLeDiff, Nat.reduceLT, Nat.reduceAdd, Int.reduceAdd, Int.reduceSub, Int.reduceNeg, ↓reduceIte, Nat.reduceEqDiff, reduceCtorEq, Int.reduceBEq, Int.reduceBNe, Nat.reduceBEq]
    exact h2
  by_cases h : ps.length ≤ 800
  · have k := key (decide (es.length ≤ 100)) (fun h' => ⟨h, of_decide_eq_true h'⟩)
    have e1 : decide ((ps.length : Int) ≤ 800) = true := by rw [d1]; exact decide_eq_true h
    rw [decide_eq_true h, Bool.true_and]
    simp (disch := first | omega | (simp only [go_sem, List.length_take, List.length_drop] <;> omega) | assumption | decide | fail) only [go_sem, X_sfoot_Encode, c_sfoot_Encode, List.length_map, e1, d2, Nat.reduceLeDiff, Nat.reduceLT, Nat.reduceAdd, Int.reduceAdd, Int.reduceSub, Int.reduceNeg, ↓reduceIte, Nat.reduceEqDiff, reduceCtorEq, Int.reduceBEq, Int.reduceBNe, Nat.reduceBEq]
    exact k
  · have k := key false (by simp)
    have e1 : decide ((ps.length : Int) ≤ 800) = false := by rw [d1]; exact decide_eq_false h
    rw [decide_eq_false h, Bool.false_and]
    simp (disch := first | omega | (simp only [go_sem, List.length_take, List.length_drop] <;> omega) | assumption | decide | fail) only [go_sem, X_sfoot_Encode, c_sfoot_Encode, List.length_map, e1, Nat.reduceLeDiff, Nat.reduceLT, Nat.reduceAdd, Int.reduceAdd, Int.reduceSub, Int.reduceNeg, ↓reduceIte, Nat.reduceEqDiff, reduceCtorEq, Int.reduceBEq, Int.reduceBNe, Nat.reduceBEq]
    exact k
end Go.Proofs.YtpflgebgmhnipaaGreatDoor
