/- Places stay in their order, encodings too. -/
import Derived.Test.YtpflgebgmhnipaaGreatDoorSfI
import Derived.Test.YtpflgebgmhnipaaGreatDoorLawPlaceBack
namespace Go.Proofs.YtpflgebgmhnipaaGreatDoor
open Go Go.Ev
set_option linter.unusedVariables false
set_option linter.unusedSimpArgs false
set_option maxHeartbeats 4000000

def psO : Nat → List UInt8 → List PI
  | _, [] => []
  | i, k :: r => ((k.toNat : Int), (i : Int), 3 * (i : Int)) :: psO (i + 1) r
def esO : Nat → List UInt8 → List EI
  | _, [] => []
  | i, w :: r => ((i : Int) % 4, (w.toNat : Int)) :: esO (i + 1) r
theorem psO_len : ∀ (l : List UInt8) (i : Nat), (psO i l).length = l.length
  | [], _ => rfl
  | x :: r, i => by rw [psO, List.length_cons, psO_len r, List.length_cons]
theorem esO_len : ∀ (l : List UInt8) (i : Nat), (esO i l).length = l.length
  | [], _ => rfl
  | x :: r, i => by rw [esO, List.length_cons, esO_len r, List.length_cons]
theorem inM_of {n : Int} (h1 : 0 ≤ n) (h2 : n ≤ 262144) : inM n = true := by unfold inM; rw [decide_eq_true h1, decide_eq_true h2]; rfl
theorem psO_in : ∀ (l : List UInt8) (i : Nat), i + l.length ≤ 1000 → (psO i l).all inP = true
  | [], _, _ => rfl
  | x :: r, i, h => by
    simp only [List.length_cons] at h
    have hx := u8_lt x
    rw [psO, List.all_cons, psO_in r (i + 1) (by omega), Bool.and_true, inP, inM_of (by simp only; omega) (by simp only; omega), inM_of (by simp only; omega) (by simp only; omega), inM_of (by simp only; omega) (by simp only; omega)]
    rfl
theorem esO_in : ∀ (l : List UInt8) (i : Nat), (esO i l).all inE = true
  | [], _ => rfl
  | x :: r, i => by
    have hx := u8_lt x
    rw [esO, List.all_cons, esO_in r (i + 1), Bool.and_true, inE, inM_of (by simp only; omega) (by simp only; omega), inM_of (by simp only; omega) (by simp only; omega)]
    rfl
abbrev oM (ps : List PI) (es : List EI) : List (Cel × V) := [(⟨0, 5, 0⟩, ownZ 3 (ps.map plI)), (⟨0, 5, 1⟩, ownZ 2 (es.map enI))]
theorem order_ps (ks ws : List UInt8) (hn : ks.length ≤ 100) (K : List Kf) : ∀ (r : List UInt8) (i : Nat) (acc : List PI), ks.drop i = r → acc.length ≤ i → i ≤ ks.length →
    go X_ingotlaw22_PlaceOrder (.c (.loop b_ingotlaw22_PlaceOrder_10) :: .b 0 :: K) ⟨[(0, .d (.sl ((ks).map byteD))), (1, .d (.sl ((ws).map byteD))), (5, .ref 0 5 0), (6, .d (.int .i64 ((i : Int))))], oM acc []⟩ =
      go X_ingotlaw22_PlaceOrder K ⟨[(0, .d (.sl ((ks).map byteD))), (1, .d (.sl ((ws).map byteD))), (5, .ref 0 5 0), (6, .d (.int .i64 ((ks.length : Int)))), (31, .d (.bool (false)))], oM (acc ++ psO i r) []⟩
  | [], i, acc, hr, hp, hi => by
    have := dropEnd hr
    have : i = ks.length := by omega
    subst this
    have d_a : decide ((ks.length : Int) < ks.length) = false := by simp <;> omega
    rw [go_loop, psO, List.append_nil]
    unfold oM
    simp (disch := first | omega | (simp only [go_sem, List.length_take, List.length_drop] <;> omega) | assumption | decide | fail) only [go_sem, X_ingotlaw22_PlaceOrder, d_a, home_ownZ, Nat.reduceLeDiff, Nat.reduceLT, Nat.reduceAdd, Int.reduceAdd, Int.reduceSub, Int.reduceNeg, ↓reduceIte, Nat.reduceEqDiff, reduceCtorEq, Int.reduceBEq, Int.reduceBNe, Nat.reduceBEq]
  | x :: r, i, acc, hr, hp, hi => by
    obtain ⟨h1, h2, h3⟩ := dropAt hr
    have d_a : decide ((i : Int) < ks.length) = true := by simp <;> omega
    have hx := u8_lt x
    have ih := order_ps ks ws hn K r (i + 1) (acc ++ [((x.toNat : Int), (i : Int), 3 * (i : Int))]) h3 (by simp; omega) h1
    rw [show (((i + 1 : Nat)) : Int) = (i : Int) + 1 by omega, List.append_assoc, List.singleton_append] at ih
    rw [psO, ← ih]
    unfold oM
    rw [ownPI, go_loop]
    cases acc with
    | nil =>
      simp (disch := first | omega | (simp only [go_sem, List.length_take, List.length_drop] <;> omega) | assumption | decide | fail) only [go_sem, X_ingotlaw22_PlaceOrder, d_a, home_ownZ, h2, byteD_eq, List.map_nil, ownZ_nil, len3', List.nil_append, Nat.reduceLeDiff, Nat.reduceLT, Nat.reduceAdd, Int.reduceAdd, Int.reduceSub, Int.reduceNeg, ↓reduceIte, Nat.reduceEqDiff, reduceCtorEq, Int.reduceBEq, Int.reduceBNe, Nat.reduceBEq]
    | cons y acc =>
      simp only [List.length_cons] at hp
      rw [List.map_cons]
      generalize plI y = w
      simp (disch := first | omega | (simp only [go_sem, List.length_take, List.length_drop] <;> omega) | assumption | decide | fail) only [go_sem, X_ingotlaw22_PlaceOrder, d_a, home_ownZ, h2, byteD_eq, ownZ_cons, len3', List.cons_append, Nat.reduceLeDiff, Nat.reduceLT, Nat.reduceAdd, Int.reduceAdd, Int.reduceSub, Int.reduceNeg, ↓reduceIte, Nat.reduceEqDiff, reduceCtorEq, Int.reduceBEq, Int.reduceBNe, Nat.reduceBEq]
theorem order_es (ws : List UInt8) (ps : List PI) (hn : ws.length ≤ 100) (K : List Kf) : ∀ (r : List UInt8) (i : Nat) (acc : List EI), ws.drop i = r → acc.length ≤ i → i ≤ ws.length →
    go X_ingotlaw22_PlaceOrder (.c (.loop b_ingotlaw22_PlaceOrder_15) :: .b 2 :: K) ⟨[(1, .d (.sl ((ws).map byteD))), (5, .ref 0 5 0), (7, .d (.int .i64 ((i : Int))))], oM ps acc⟩ =
      go X_ingotlaw22_PlaceOrder K ⟨[(1, .d (.sl ((ws).map byteD))), (5, .ref 0 5 0), (7, .d (.int .i64 ((ws.length : Int)))), (51, .d (.bool (false)))], oM ps (acc ++ esO i r)⟩
  | [], i, acc, hr, hp, hi => by
    have := dropEnd hr
    have : i = ws.length := by omega
    subst this
    have d_a : decide ((ws.length : Int) < ws.length) = false := by simp <;> omega
    rw [go_loop, esO, List.append_nil]
    unfold oM
    simp (disch := first | omega | (simp only [go_sem, List.length_take, List.length_drop] <;> omega) | assumption | decide | fail) only [go_sem, X_ingotlaw22_PlaceOrder, d_a, home_ownZ, Nat.reduceLeDiff, Nat.reduceLT, Nat.reduceAdd, Int.reduceAdd, Int.reduceSub, Int.reduceNeg, ↓reduceIte, Nat.reduceEqDiff, reduceCtorEq, Int.reduceBEq, Int.reduceBNe, Nat.reduceBEq]
  | x :: r, i, acc, hr, hp, hi => by
    obtain ⟨h1, h2, h3⟩ := dropAt hr
    have d_a : decide ((i : Int) < ws.length) = true := by simp <;> omega
    have hx := u8_lt x
    have hm : (i : Int).tmod 4 = (i : Int) % 4 := Int.tmod_eq_emod_of_nonneg (by omega)
    have ih := order_es ws ps hn K r (i + 1) (acc ++ [((i : Int) % 4, (x.toNat : Int))]) h3 (by simp; omega) h1
    rw [show (((i + 1 : Nat)) : Int) = (i : Int) + 1 by omega, List.append_assoc, List.singleton_append] at ih
    rw [esO, ← ih]
    unfold oM
    rw [ownEI, go_loop]
    have h4 : (4 : Int) ≠ 0 := by decide
    cases acc with
    | nil =>
      simp (disch := first | omega | (simp only [go_sem, List.length_take, List.length_drop] <;> omega) | assumption | decide | fail) only [go_sem, X_ingotlaw22_PlaceOrder, d_a, home_ownZ, h2, byteD_eq, ib_rem _ _ h4, hm, List.map_nil, ownZ_nil, len2', List.nil_append, Nat.reduceLeDiff, Nat.reduceLT, Nat.reduceAdd, Int.reduceAdd, Int.reduceSub, Int.reduceNeg, ↓reduceIte, Nat.reduceEqDiff, reduceCtorEq, Int.reduceBEq, Int.reduceBNe, Nat.reduceBEq]
    | cons y acc =>
      simp only [List.length_cons] at hp
      rw [List.map_cons]
      generalize enI y = w
      simp (disch := first | omega | (simp only [go_sem, List.length_take, List.length_drop] <;> omega) | assumption | decide | fail) only [go_sem, X_ingotlaw22_PlaceOrder, d_a, home_ownZ, h2, byteD_eq, ib_rem _ _ h4, hm, ownZ_cons, len2', List.cons_append, Nat.reduceLeDiff, Nat.reduceLT, Nat.reduceAdd, Int.reduceAdd, Int.reduceSub, Int.reduceNeg, ↓reduceIte, Nat.reduceEqDiff, reduceCtorEq, Int.reduceBEq, Int.reduceBNe, Nat.reduceBEq]
theorem utc_ne (a : List UInt8) : a ++ bytesF 3 utc ≠ [] := by
  have : bytesF 3 utc ≠ [] := by decide
  simp [this]
theorem okE_of {ps : List PI} {es : List EI} (h1 : ps.length ≤ 800) (h2 : es.length ≤ 100) (h3 : ps.all inP = true) (h4 : es.all inE = true) : okE ps es = true := by
  unfold okE; rw [decide_eq_true h1, decide_eq_true h2, h3, h4]; rfl
/-- encodings first, places behind them, each with its zone -/
theorem dec_two (ps : List PI) (es : List EI) (h : okE ps es = true) (hs : ps.length ≤ 200) : decM ((flatE [] es ++ bytesF 3 utc) ++ (flatE ps [] ++ bytesF 3 utc)) = (ps.map natP, es.map natE, 0) := by
  obtain ⟨h1, h2, h3, h4⟩ := okE_parts h
  have a := flat_len plB 80 plB_len ps
  have b := flat_len enB 60 enB_len es
  have hu := utc_len
  have e : (flatE [] es ++ bytesF 3 utc) ++ (flatE ps [] ++ bytesF 3 utc) = putB ((itemsE [] es ++ [Item.z 3 utc] ++ (itemsE ps [] ++ [Item.z 3 utc])).map Item.put) := by
    simp only [List.map_append, putB_append]
    rw [putB_items [] es h4, putB_items ps [] (by simp)]
    simp [putB, Item.put, Put.bytes]
  have hl : ((flatE [] es ++ bytesF 3 utc) ++ (flatE ps [] ++ bytesF 3 utc)).length ≤ 262144 := by
    unfold flatE
    simp only [List.length_append, List.map_nil, List.flatten_nil, List.length_nil]
    omega
  rw [e] at hl ⊢
  have hpp : itP (itemsE [] es ++ [Item.z 3 utc] ++ (itemsE ps [] ++ [Item.z 3 utc])) = ps.map natP := by simp only [itP_app, itemsE_P]; simp [itP, Item.ps]
  have hee : itE (itemsE [] es ++ [Item.z 3 utc] ++ (itemsE ps [] ++ [Item.z 3 utc])) = es.map natE := by simp only [itE_app, itemsE_E]; simp [itE, Item.es]
  have hz : (Item.z 3 utc).ok := ⟨by omega, by omega⟩
  have := decM_items _ (fun i hi => by
    rcases List.mem_append.1 hi with hi | hi
    · rcases List.mem_append.1 hi with hi | hi
      · exact items_ok [] es (by simp) h4 i hi
      · rw [List.mem_singleton] at hi; subst hi; exact hz
    · rcases List.mem_append.1 hi with hi | hi
      · exact items_ok ps [] h3 (by simp) i hi
      · rw [List.mem_singleton] at hi; subst hi; exact hz) hl (by simp [itemsE]; omega) (by rw [hpp]; simpa using h1) (by rw [hee]; simpa using h2)
  rw [hpp, hee] at this
  exact this
theorem enc_small (ps : List PI) (es : List EI) (h : okE ps es = true) (hs : ps.length ≤ 200) : evL cfg n_sfoot_Encode 0 [.d (fI ps es)] [] = some (.d (.tup [.sl ((flatE ps es ++ bytesF 3 utc).map byteD), .int .i64 0]), []) := by
  obtain ⟨h1, h2, h3, h4⟩ := okE_parts h
  have a := flat_len plB 80 plB_len ps
  have b := flat_len enB 60 enB_len es
  have hu := utc_len
  have g1 := sfoot_Encode_ans ps es (by omega) (by omega)
  rw [enc_eq] at g1
  unfold encD at g1
  rw [h] at g1
  simp only [Bool.true_eq_false, if_false] at g1
  rw [if_neg (by
    unfold flatE
    simp only [List.length_append]
    omega)] at g1
  exact g1
theorem rowPlaceOrder (ks ws : List UInt8) (_ : ks.length ≤ maxLen) (_ : ws.length ≤ maxLen) : evL cfg n_ingotlaw22_PlaceOrder 0 [.d (.sl ((ks).map byteD)), .d (.sl ((ws).map byteD))] [] = some (.d (.bool (true)), []) := by
  rw [o_ingotlaw22_PlaceOrder]
  by_cases h1 : ks.length > 100
  · have d_a : decide ((ks.length : Int) > 100) = true := by simp <;> omega
    simp (disch := first | omega | (simp only [go_sem, List.length_take, List.length_drop] <;> omega) | assumption | decide | fail) only [go_sem, X_ingotlaw22_PlaceOrder, c_ingotlaw22_PlaceOrder, known_ok, List.length_map, d_a, Nat.reduceLeDiff, Nat.reduceLT, Nat.reduceAdd, Int.reduceAdd, Int.reduceSub, Int.reduceNeg, ↓reduceIte, Nat.reduceEqDiff, reduceCtorEq, Int.reduceBEq, Int.reduceBNe, Nat.reduceBEq]
  · have d_a : decide ((ks.length : Int) > 100) = false := by simp <;> omega
    by_cases h2 : ws.length > 100
    · have d_b : decide ((ws.length : Int) > 100) = true := by simp <;> omega
      simp (disch := first | omega | (simp only [go_sem, List.length_take, List.length_drop] <;> omega) | assumption | decide | fail) only [go_sem, X_ingotlaw22_PlaceOrder, c_ingotlaw22_PlaceOrder, known_ok, List.length_map, d_a, d_b, Nat.reduceLeDiff, Nat.reduceLT, Nat.reduceAdd, Int.reduceAdd, Int.reduceSub, Int.reduceNeg, ↓reduceIte, Nat.reduceEqDiff, reduceCtorEq, Int.reduceBEq, Int.reduceBNe, Nat.reduceBEq]
    · have d_b : decide ((ws.length : Int) > 100) = false := by simp <;> omega
      have l1 := fun K => order_ps ks ws (by omega) K ks 0 [] rfl (Nat.zero_le _) (Nat.zero_le _)
      have l2 := fun K => order_es ws (psO 0 ks) (by omega) K ws 0 [] rfl (Nat.zero_le _) (Nat.zero_le _)
      have n1 := psO_len ks 0
      have n2 := esO_len ws 0
      have i1 := psO_in ks 0 (by omega)
      have i2 := esO_in ws 0
      simp only [oM, List.map_nil, ownZ_nil, List.nil_append] at l1 l2
      simp (disch := first | omega | (simp only [go_sem, List.length_take, List.length_drop] <;> omega) | assumption | decide | fail) only [go_sem, X_ingotlaw22_PlaceOrder, c_ingotlaw22_PlaceOrder, known_ok, List.length_map, d_a, d_b, Nat.reduceLeDiff, Nat.reduceLT, Nat.reduceAdd, Int.reduceAdd, Int.reduceSub, Int.reduceNeg, ↓reduceIte, Nat.reduceEqDiff, reduceCtorEq, Int.reduceBEq, Int.reduceBNe, Nat.reduceBEq]
      refine (l1 _).trans ?_
      simp (disch := first | omega | (simp only [go_sem, List.length_take, List.length_drop] <;> omega) | assumption | decide | fail) only [go_sem, X_ingotlaw22_PlaceOrder, home_ownZ, Nat.reduceLeDiff, Nat.reduceLT, Nat.reduceAdd, Int.reduceAdd, Int.reduceSub, Int.reduceNeg, ↓reduceIte, Nat.reduceEqDiff, reduceCtorEq, Int.reduceBEq, Int.reduceBNe, Nat.reduceBEq]
      refine (l2 _).trans ?_
      clear l1 l2
      generalize psO 0 ks = ps at *
      generalize esO 0 ws = es at *
      have k0 : okE ps es = true := okE_of (by omega) (by omega) i1 i2
      have k1 : okE ps [] = true := okE_of (by omega) (by simp) i1 rfl
      have k2 : okE [] es = true := okE_of (by simp) (by omega) rfl i2
      have e1 := enc_small ps es k0 (by omega)
      have e2 := enc_small ps [] k1 (by omega)
      have e3 := enc_small [] es k2 (by simp)
      obtain ⟨_, _, p3, p4⟩ := okE_parts k0
      have hu := utc_len
      have w0 := flatE_len ps es k0
      have w1 := flatE_len ps [] k1
      have w2 := flatE_len [] es k2
      have d1 := sfoot_Decode_ans (l := flatE ps es ++ bytesF 3 utc) (by rw [List.length_append]; omega)
      have d2 := sfoot_Decode_ans (l := (flatE [] es ++ bytesF 3 utc) ++ (flatE ps [] ++ bytesF 3 utc)) (by simp only [List.length_append]; omega)
      rw [dec_enc ps es k0, fD_nat ps es p3 p4] at d1
      rw [dec_two ps es k0 (by omega), fD_nat ps es p3 p4, List.map_append] at d2
      have o1 := Of_ans ps es (by omega) (by omega)
      have o2 := same_ans ps es (by omega) (by omega)
      have z1 : (flatE [] es ++ bytesF 3 utc).length ≤ 100000 := by rw [List.length_append]; omega
      have z2 : (flatE ps [] ++ bytesF 3 utc).length ≤ 100000 := by rw [List.length_append]; omega
      have q13 : ps = [] → flatE ps es ++ bytesF 3 utc = flatE [] es ++ bytesF 3 utc := fun h => by rw [h]
      have q12 : es = [] → flatE ps es ++ bytesF 3 utc = flatE ps [] ++ bytesF 3 utc := fun h => by rw [h]
      have c1 := utc_ne (flatE ps es)
      have c2 := utc_ne (flatE ps [])
      have c3 := utc_ne (flatE [] es)
      generalize flatE ps es ++ bytesF 3 utc = q1 at *
      generalize flatE ps [] ++ bytesF 3 utc = q2 at *
      generalize flatE [] es ++ bytesF 3 utc = q3 at *
      obtain ⟨x1, t1, rfl⟩ := List.exists_cons_of_ne_nil c1
      obtain ⟨x2, t2, rfl⟩ := List.exists_cons_of_ne_nil c2
      obtain ⟨x3, t3, rfl⟩ := List.exists_cons_of_ne_nil c3
      simp only [List.map_cons, List.length_cons, List.cons_append] at e1 e2 e3 d1 d2 z1 z2
      unfold fI at *
      clear i1 i2 k0 k1 k2 w0 w1 w2 p3 p4
      cases ps with
      | nil =>
        obtain ⟨rfl, rfl⟩ := List.cons.inj (q13 rfl)
        clear q13
        cases es with
        | nil =>
          obtain ⟨rfl, rfl⟩ := List.cons.inj (q12 rfl)
          clear q12
          simp only [List.map_nil] at *
          simp (disch := first | omega | (simp only [go_sem, List.length_take, List.length_drop] <;> omega) | assumption | decide | fail) only [go_sem, X_ingotlaw22_PlaceOrder, ownZ_nil, e1, e2, e3, d1, d2, o1, o2, List.nil_append, List.cons_append, Nat.reduceLeDiff, Nat.reduceLT, Nat.reduceAdd, Int.reduceAdd, Int.reduceSub, Int.reduceNeg, ↓reduceIte, Nat.reduceEqDiff, reduceCtorEq, Int.reduceBEq, Int.reduceBNe, Nat.reduceBEq]
        | cons z es =>
          simp only [List.map_nil, List.map_cons] at *
          simp (disch := first | omega | (simp only [go_sem, List.length_take, List.length_drop] <;> omega) | assumption | decide | fail) only [go_sem, X_ingotlaw22_PlaceOrder, ownZ_nil, ownZ_cons, List.length_cons, List.length_map, List.take_succ_cons, takeM', e1, e2, e3, d1, d2, o1, o2, List.nil_append, List.cons_append, Nat.reduceLeDiff, Nat.reduceLT, Nat.reduceAdd, Int.reduceAdd, Int.reduceSub, Int.reduceNeg, ↓reduceIte, Nat.reduceEqDiff, reduceCtorEq, Int.reduceBEq, Int.reduceBNe, Nat.reduceBEq]
      | cons y ps =>
        clear q13
        cases es with
        | nil =>
          obtain ⟨rfl, rfl⟩ := List.cons.inj (q12 rfl)
          clear q12
          simp only [List.map_nil, List.map_cons] at *
          simp (disch := first | omega | (simp only [go_sem, List.length_take, List.length_drop] <;> omega) | assumption | decide | fail) only [go_sem, X_ingotlaw22_PlaceOrder, ownZ_nil, ownZ_cons, List.length_cons, List.length_map, List.take_succ_cons, takeM', e1, e2, e3, d1, d2, o1, o2, List.nil_append, List.cons_append, Nat.reduceLeDiff, Nat.reduceLT, Nat.reduceAdd, Int.reduceAdd, Int.reduceSub, Int.reduceNeg, ↓reduceIte, Nat.reduceEqDiff, reduceCtorEq, Int.reduceBEq, Int.reduceBNe, Nat.reduceBEq]
        | cons z es =>
          simp only [List.map_nil, List.map_cons] at *
          simp (disch := first | omega | (simp only [go_sem, List.length_take, List.length_drop] <;> omega) | assumption | decide | fail) only [go_sem, X_ingotlaw22_PlaceOrder, ownZ_nil, ownZ_cons, List.length_cons, List.length_map, List.take_succ_cons, takeM', e1, e2, e3, d1, d2, o1, o2, List.nil_append, List.cons_append, Nat.reduceLeDiff, Nat.reduceLT, Nat.reduceAdd, Int.reduceAdd, Int.reduceSub, Int.reduceNeg, ↓reduceIte, Nat.reduceEqDiff, reduceCtorEq, Int.reduceBEq, Int.reduceBNe, Nat.reduceBEq]
end Go.Proofs.YtpflgebgmhnipaaGreatDoor
