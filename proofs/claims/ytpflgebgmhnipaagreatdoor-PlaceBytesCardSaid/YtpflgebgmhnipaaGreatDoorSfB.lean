/- A stripe's footer read: the document's reader; both. -/
import Derived.Test.YtpflgebgmhnipaaGreatDoorSfA
namespace Go.Proofs.YtpflgebgmhnipaaGreatDoor
open Go Go.Ev
set_option linter.unusedVariables false
set_option linter.unusedSimpArgs false
set_option maxHeartbeats 4000000

theorem decN_false : ∀ (r : List Fld) (ps ps' : List Pl) (es es' : List (Nat × Nat)), decN r false ps es = decN r false ps' es'
  | [], ps, ps', es, es' => by
    unfold decN
    rw [if_pos (.inl rfl), if_pos (.inl rfl)]
  | f :: r, ps, ps', es, es' => by
    rw [decN, decN]
    simp only [Bool.false_and]
    split
    · exact decN_false r ps ps' es es'
    · split
      · rfl
      · split
        · exact decN_false r _ _ _ _
        · exact decN_false r _ _ _ _
def decM (l : List UInt8) : Foot := if (parseM l).2 ≠ 0 then ([], [], (parseM l).2) else decN (parseM l).1 true [] []
theorem sfoot_Decode_ans {l : List UInt8} (hl : l.length ≤ 1000000) : evL cfg n_sfoot_Decode 0 [.d (.sl ((l).map byteD))] [] = some (fD (decM l), []) := by
  rw [o_sfoot_Decode]
  have hP := pb_Parse_ans l hl
  obtain ⟨k1, k2⟩ := parseM_ok l
  unfold decM
  generalize parseM l = pr at *
  obtain ⟨fs, e⟩ := pr
  simp only [parseD] at hP k1 k2 ⊢
  by_cases he : e ≠ 0
  · rw [if_pos he]
    have d1 : ((e : Int) != 0) = true := by simp; omega
    simp (disch := first | omega | (simp only [go_sem, List.length_take, List.length_drop] <;> omega) | assumption | decide | fail) only [go_sem, X_sfoot_Decode, c_sfoot_Decode, hP, d1, Nat.reduceLeDiff, Nat.reduceLT, Nat.reduceAdd, Int.reduceAdd, Int.reduceSub, Int.reduceNeg, ↓reduceIte, Nat.reduceEqDiff, reduceCtorEq, Int.reduceBEq, Int.reduceBNe, Nat.reduceBEq]
    rfl
  · rw [if_neg he]
    have he := Decidable.not_not.1 he
    subst he
    have h := sfoot_Decode_loop fs (by omega) (fun f hf => Nat.le_trans (k1 f hf) hl) fs 0 true [] [] .none rfl (Nat.zero_le _) (Nat.zero_le _) (Nat.zero_le _)
    unfold baseM at h
    rw [List.map_nil, List.map_nil, ownZ_nil, ownZ_nil] at h
    simp (disch := first | omega | (simp only [go_sem, List.length_take, List.length_drop] <;> omega) | assumption | decide | fail) only [go_sem, X_sfoot_Decode, c_sfoot_Decode, hP, List.length_map, Nat.reduceLeDiff, Nat.reduceLT, Nat.reduceAdd, Int.reduceAdd, Int.reduceSub, Int.reduceNeg, ↓reduceIte, Nat.reduceEqDiff, reduceCtorEq, Int.reduceBEq, Int.reduceBNe, Nat.reduceBEq]
    exact h
theorem gtC (u : Nat) : decide ((u : Int) > 262144) = !decide (u ≤ 262144) := by
  by_cases h : u ≤ 262144
  · rw [decide_eq_true h, decide_eq_false (by omega)]; rfl
  · rw [decide_eq_false h, decide_eq_true (by omega)]; rfl
theorem ref22_tail (fs : List Fld) (i : Int) (ok : Bool) (ps : List Pl) (es : List (Nat × Nat)) (hp : ps.length ≤ 1000000) (he : es.length ≤ 1000000) :
    go X_ingotref22_Decode [.c (r_ingotref22_Decode_24.seq (.cond (.t 138) (r_ingotref22_Decode_25.seq .ret) (r_ingotref22_Decode_26.seq .ret)))] ⟨[(2, .ref 0 2 0), (4, .d (.sl (fs.map Fld.d))), (6, .ref 0 6 0), (7, .d (.bool (!ok))), (8, .d (.int .i64 (i))), (29, .d (.bool (false)))], baseM ps es⟩ =
      some (fD (decN [] ok ps es), []) := by
  unfold decN baseM
  cases ok with
  | false =>
    rw [if_pos (.inl rfl)]
    simp (disch := first | omega | (simp only [go_sem, List.length_take, List.length_drop] <;> omega) | assumption | decide | fail) only [go_sem, X_ingotref22_Decode, home_ownZ, Bool.not_false, Nat.reduceLeDiff, Nat.reduceLT, Nat.reduceAdd, Int.reduceAdd, Int.reduceSub, Int.reduceNeg, ↓reduceIte, Nat.reduceEqDiff, reduceCtorEq, Int.reduceBEq, Int.reduceBNe, Nat.reduceBEq]
    rfl
  | true =>
    by_cases h1 : 800 < ps.length
    · rw [if_pos (.inr (.inl h1))]
      cases ps with
      | nil => simp at h1
      | cons y ps =>
        simp only [List.length_cons] at h1 hp
        have d_a : decide (((ps.length + 1 : Nat) : Int) > 800) = true := by simp <;> omega
        simp (disch := first | omega | (simp only [go_sem, List.length_take, List.length_drop] <;> omega) | assumption | decide | fail) only [go_sem, X_ingotref22_Decode, home_ownZ, Bool.not_true, List.map_cons, ownZ_cons, List.length_map, List.length_cons, List.take_succ_cons, takeM, d_a, Nat.reduceLeDiff, Nat.reduceLT, Nat.reduceAdd, Int.reduceAdd, Int.reduceSub, Int.reduceNeg, ↓reduceIte, Nat.reduceEqDiff, reduceCtorEq, Int.reduceBEq, Int.reduceBNe, Nat.reduceBEq]
        rfl
    · by_cases h2 : 100 < es.length
      · rw [if_pos (.inr (.inr h2))]
        cases es with
        | nil => simp at h2
        | cons z es =>
          simp only [List.length_cons] at h2 he
          have d_b : decide (((es.length + 1 : Nat) : Int) > 100) = true := by simp <;> omega
          cases ps with
          | nil =>
            simp (disch := first | omega | (simp only [go_sem, List.length_take, List.length_drop] <;> omega) | assumption | decide | fail) only [go_sem, X_ingotref22_Decode, home_ownZ, Bool.not_true, List.map_cons, List.map_nil, ownZ_cons, ownZ_nil, List.length_map, List.length_cons, List.take_succ_cons, takeM, d_b, gz800, Nat.reduceLeDiff, Nat.reduceLT, Nat.reduceAdd, Int.reduceAdd, Int.reduceSub, Int.reduceNeg, ↓reduceIte, Nat.reduceEqDiff, reduceCtorEq, Int.reduceBEq, Int.reduceBNe, Nat.reduceBEq]
            rfl
          | cons y ps =>
            simp only [List.length_cons] at h1 hp
            have d_a : decide (((ps.length + 1 : Nat) : Int) > 800) = false := by simp <;> omega
            simp (disch := first | omega | (simp only [go_sem, List.length_take, List.length_drop] <;> omega) | assumption | decide | fail) only [go_sem, X_ingotref22_Decode, home_ownZ, Bool.not_true, List.map_cons, List.map_nil, ownZ_cons, ownZ_nil, List.length_map, List.length_cons, List.take_succ_cons, takeM, d_a, d_b, Nat.reduceLeDiff, Nat.reduceLT, Nat.reduceAdd, Int.reduceAdd, Int.reduceSub, Int.reduceNeg, ↓reduceIte, Nat.reduceEqDiff, reduceCtorEq, Int.reduceBEq, Int.reduceBNe, Nat.reduceBEq]
            rfl
      · rw [if_neg (by simp; omega)]
        cases ps with
        | nil =>
          cases es with
          | nil =>
            simp (disch := first | omega | (simp only [go_sem, List.length_take, List.length_drop] <;> omega) | assumption | decide | fail) only [go_sem, X_ingotref22_Decode, home_ownZ, Bool.not_true, List.map_cons, List.map_nil, ownZ_cons, ownZ_nil, List.length_map, List.length_cons, List.take_succ_cons, takeM, gz800, gz100, Nat.reduceLeDiff, Nat.reduceLT, Nat.reduceAdd, Int.reduceAdd, Int.reduceSub, Int.reduceNeg, ↓reduceIte, Nat.reduceEqDiff, reduceCtorEq, Int.reduceBEq, Int.reduceBNe, Nat.reduceBEq]
            rfl
          | cons z es =>
            simp only [List.length_cons] at h2 he
            have d_b : decide (((es.length + 1 : Nat) : Int) > 100) = false := by simp <;> omega
            simp (disch := first | omega | (simp only [go_sem, List.length_take, List.length_drop] <;> omega) | assumption | decide | fail) only [go_sem, X_ingotref22_Decode, home_ownZ, Bool.not_true, List.map_cons, List.map_nil, ownZ_cons, ownZ_nil, List.length_map, List.length_cons, List.take_succ_cons, takeM, gz800, d_b, Nat.reduceLeDiff, Nat.reduceLT, Nat.reduceAdd, Int.reduceAdd, Int.reduceSub, Int.reduceNeg, ↓reduceIte, Nat.reduceEqDiff, reduceCtorEq, Int.reduceBEq, Int.reduceBNe, Nat.reduceBEq]
            rfl
        | cons y ps =>
          simp only [List.length_cons] at h1 hp
          have d_a : decide (((ps.length + 1 : Nat) : Int) > 800) = false := by simp <;> omega
          cases es with
          | nil =>
            simp (disch := first | omega | (simp only [go_sem, List.length_take, List.length_drop] <;> omega) | assumption | decide | fail) only [go_sem, X_ingotref22_Decode, home_ownZ, Bool.not_true, List.map_cons, List.map_nil, ownZ_cons, ownZ_nil, List.length_map, List.length_cons, List.take_succ_cons, takeM, d_a, gz100, Nat.reduceLeDiff, Nat.reduceLT, Nat.reduceAdd, Int.reduceAdd, Int.reduceSub, Int.reduceNeg, ↓reduceIte, Nat.reduceEqDiff, reduceCtorEq, Int.reduceBEq, Int.reduceBNe, Nat.reduceBEq]
            rfl
          | cons z es =>
            simp only [List.length_cons] at h2 he
            have d_b : decide (((es.length + 1 : Nat) : Int) > 100) = false := by simp <;> omega
            simp (disch := first | omega | (simp only [go_sem, List.length_take, List.length_drop] <;> omega) | assumption | decide | fail) only [go_sem, X_ingotref22_Decode, home_ownZ, Bool.not_true, List.map_cons, List.map_nil, ownZ_cons, ownZ_nil, List.length_map, List.length_cons, List.take_succ_cons, takeM, d_a, d_b, Nat.reduceLeDiff, Nat.reduceLT, Nat.reduceAdd, Int.reduceAdd, Int.reduceSub, Int.reduceNeg, ↓reduceIte, Nat.reduceEqDiff, reduceCtorEq, Int.reduceBEq, Int.reduceBNe, Nat.reduceBEq]
            rfl
theorem ref22_loop (fs : List Fld) (hn : fs.length ≤ 1000000) (hb : ∀ f ∈ fs, f.b.length ≤ 1000000) : ∀ (r : List Fld) (i : Nat) (ok : Bool) (ps : List Pl) (es : List (Nat × Nat)), fs.drop i = r → ps.length ≤ i → es.length ≤ i → i ≤ fs.length →
    go X_ingotref22_Decode [.c (.loop b_ingotref22_Decode_23), .b 0, .c (r_ingotref22_Decode_24.seq (.cond (.t 138) (r_ingotref22_Decode_25.seq .ret) (r_ingotref22_Decode_26.seq .ret)))]
      ⟨[(2, .ref 0 2 0), (4, .d (.sl (fs.map Fld.d))), (6, .ref 0 6 0), (7, .d (.bool (!ok))), (8, .d (.int .i64 ((i : Int))))], baseM ps es⟩ =
      some (fD (decN r ok ps es), [])
  | [], i, ok, ps, es, hr, hp, he, hi => by
    have := dropEnd hr
    have d_a : decide ((i : Int) < fs.length) = false := by simp <;> omega
    have h := ref22_tail fs i ok ps es (by omega) (by omega)
    generalize ([Kf.c (r_ingotref22_Decode_24.seq (.cond (.t 138) (r_ingotref22_Decode_25.seq .ret) (r_ingotref22_Decode_26.seq .ret)))] : List Kf) = K at h ⊢
    rw [go_loop]
    simp (disch := first | omega | (simp only [go_sem, List.length_take, List.length_drop] <;> omega) | assumption | decide | fail) only [go_sem, X_ingotref22_Decode, d_a, List.length_map, home_ownZ, Nat.reduceLeDiff, Nat.reduceLT, Nat.reduceAdd, Int.reduceAdd, Int.reduceSub, Int.reduceNeg, ↓reduceIte, Nat.reduceEqDiff, reduceCtorEq, Int.reduceBEq, Int.reduceBNe, Nat.reduceBEq]
    exact h
  | x :: r, i, ok, ps, es, hr, hp, he, hi => by
    obtain ⟨h1, h2, h3⟩ := dropAt hr
    have d_a : decide ((i : Int) < fs.length) = true := by simp <;> omega
    have hx : x ∈ fs := List.mem_of_getElem? h2
    have hP := ref3_Parse_ans x.b (hb x hx)
    have ih := fun ok ps es h h' => ref22_loop fs hn hb r (i + 1) ok ps es h3 h h' h1
    rw [show (((i + 1 : Nat)) : Int) = (i : Int) + 1 by omega] at ih
    rw [decN]
    by_cases hw : x.wire ≠ 2 ∨ (x.num ≠ 1 ∧ x.num ≠ 2)
    · rw [if_pos hw]
      have ih := ih ok ps es (by omega) (by omega)
      generalize (!ok) = big at *
      rw [go_loop]
      by_cases hw2 : x.wire = 2
      · have f1 : ((x.wire : Int) != 2) = false := by rw [hw2]; rfl
        obtain ⟨g1, g2⟩ := hw.resolve_left (by simp [hw2])
        by_cases hz : x.num < 1
        · have d_b : decide ((x.num : Int) < 1) = true := by simp <;> omega
          simp (disch := first | omega | (simp only [go_sem, List.length_take, List.length_drop] <;> omega) | assumption | decide | fail) only [go_sem, X_ingotref22_Decode, d_a, List.length_map, home_ownZ, evIdx_sl, Int.toNat_natCast, h2, Option.map_some, Fld.d, f1, d_b, Nat.reduceLeDiff, Nat.reduceLT, Nat.reduceAdd, Int.reduceAdd, Int.reduceSub, Int.reduceNeg, ↓reduceIte, Nat.reduceEqDiff, reduceCtorEq, Int.reduceBEq, Int.reduceBNe, Nat.reduceBEq]
          exact ih
        · have d_b : decide ((x.num : Int) < 1) = false := by simp <;> omega
          have d_c : decide ((x.num : Int) > 2) = true := by simp <;> omega
          simp (disch := first | omega | (simp only [go_sem, List.length_take, List.length_drop] <;> omega) | assumption | decide | fail) only [go_sem, X_ingotref22_Decode, d_a, List.length_map, home_ownZ, evIdx_sl, Int.toNat_natCast, h2, Option.map_some, Fld.d, f1, d_b, d_c, Nat.reduceLeDiff, Nat.reduceLT, Nat.reduceAdd, Int.reduceAdd, Int.reduceSub, Int.reduceNeg, ↓reduceIte, Nat.reduceEqDiff, reduceCtorEq, Int.reduceBEq, Int.reduceBNe, Nat.reduceBEq]
          exact ih
      · have f1 : ((x.wire : Int) != 2) = true := by simp; omega
        simp (disch := first | omega | (simp only [go_sem, List.length_take, List.length_drop] <;> omega) | assumption | decide | fail) only [go_sem, X_ingotref22_Decode, d_a, List.length_map, home_ownZ, evIdx_sl, Int.toNat_natCast, h2, Option.map_some, Fld.d, f1, Nat.reduceLeDiff, Nat.reduceLT, Nat.reduceAdd, Int.reduceAdd, Int.reduceSub, Int.reduceNeg, ↓reduceIte, Nat.reduceEqDiff, reduceCtorEq, Int.reduceBEq, Int.reduceBNe, Nat.reduceBEq]
        exact ih
    rw [if_neg hw]
    have hw2 : x.wire = 2 := Decidable.not_not.1 (fun h => hw (.inl h))
    have hnum : x.num = 1 ∨ x.num = 2 := by
      by_cases h : x.num = 1
      · exact .inl h
      · exact .inr (Decidable.not_not.1 (fun h' => hw (.inr ⟨h, h'⟩)))
    have f1 : ((x.wire : Int) != 2) = false := by rw [hw2]; rfl
    have d_b : decide ((x.num : Int) < 1) = false := by simp <;> omega
    have d_c : decide ((x.num : Int) > 2) = false := by simp <;> omega
    have k2 := (parseM_ok x.b).2
    generalize hpm : parseM x.b = pr at *
    obtain ⟨part, er⟩ := pr
    simp only [parseD] at hP k2
    simp only
    by_cases her : er ≠ 0
    · rw [if_pos her]
      have f4 : ((er : Int) != 0) = true := by simp; omega
      generalize (!ok) = big at *
      rw [go_loop]
      simp (disch := first | omega | (simp only [go_sem, List.length_take, List.length_drop] <;> omega) | assumption | decide | fail) only [go_sem, X_ingotref22_Decode, d_a, List.length_map, home_ownZ, evIdx_sl, Int.toNat_natCast, h2, Option.map_some, Fld.d, f1, d_b, d_c, hP, f4, Nat.reduceLeDiff, Nat.reduceLT, Nat.reduceAdd, Int.reduceAdd, Int.reduceSub, Int.reduceNeg, ↓reduceIte, Nat.reduceEqDiff, reduceCtorEq, Int.reduceBEq, Int.reduceBNe, Nat.reduceBEq]
      rfl
    · rw [if_neg her]
      have her := Decidable.not_not.1 her
      subst her
      have u1 := ref3_Uint_ans part 1 (by omega)
      have u2 := ref3_Uint_ans part 2 (by omega)
      have u3 := ref3_Uint_ans part 3 (by omega)
      rw [show ((1 : Nat) : Int) = 1 from rfl] at u1
      rw [show ((2 : Nat) : Int) = 2 from rfl] at u2
      rw [show ((3 : Nat) : Int) = 3 from rfl] at u3
      unfold uM
      simp only [uintD] at u1 u2 u3
      generalize (lastM part 1 0) = o1 at *
      generalize (lastM part 2 0) = o2 at *
      generalize (lastM part 3 0) = o3 at *
      generalize (o1.getD fld0).u = w1 at *
      generalize (o2.getD fld0).u = w2 at *
      generalize (o3.getD fld0).u = w3 at *
      have g1 := gtC w1
      have g2 := gtC w2
      have g3 := gtC w3
      rcases hnum with hnum | hnum
      · have f5 : ((x.num : Int) == 2) = false := by rw [hnum]; rfl
        have f6 : ((x.num : Int) == 1) = true := by rw [hnum]; rfl
        rw [if_pos hnum]
        by_cases c1 : w1 ≤ 262144
        · by_cases c2 : w2 ≤ 262144
          · by_cases c3 : w3 ≤ 262144
            · have ih := ih ok (ps ++ [(w1, w2, w3)]) es (by simp; omega) (by omega)
              unfold baseM at ih ⊢
              rw [ownP] at ih
              simp only [decide_eq_true c1, decide_eq_true c2, decide_eq_true c3, Bool.and_true, Nat.min_eq_left c1, Nat.min_eq_left c2, Nat.min_eq_left c3, Bool.not_true] at g1 g2 g3 ⊢
              rw [← ih]
              clear ih
              generalize (!ok) = big at *
              rw [go_loop]
              cases ps with
              | nil =>
                simp (disch := first | omega | (simp only [go_sem, List.length_take, List.length_drop] <;> omega) | assumption | decide | fail) only [go_sem, X_ingotref22_Decode, d_a, List.length_map, home_ownZ, evIdx_sl, Int.toNat_natCast, h2, Option.map_some, Fld.d, f1, d_b, d_c, hP, u1, u2, u3, f5, f6, g1, g2, g3, List.map_nil, ownZ_nil, len3, List.nil_append, Nat.reduceLeDiff, Nat.reduceLT, Nat.reduceAdd, Int.reduceAdd, Int.reduceSub, Int.reduceNeg, ↓reduceIte, Nat.reduceEqDiff, reduceCtorEq, Int.reduceBEq, Int.reduceBNe, Nat.reduceBEq]
              | cons y ps =>
                simp only [List.length_cons] at hp
                rw [List.map_cons]
                generalize plD y = w
                simp (disch := first | omega | (simp only [go_sem, List.length_take, List.length_drop] <;> omega) | assumption | decide | fail) only [go_sem, X_ingotref22_Decode, d_a, List.length_map, home_ownZ, evIdx_sl, Int.toNat_natCast, h2, Option.map_some, Fld.d, f1, d_b, d_c, hP, u1, u2, u3, f5, f6, g1, g2, g3, ownZ_cons, len3, List.cons_append, Nat.reduceLeDiff, Nat.reduceLT, Nat.reduceAdd, Int.reduceAdd, Int.reduceSub, Int.reduceNeg, ↓reduceIte, Nat.reduceEqDiff, reduceCtorEq, Int.reduceBEq, Int.reduceBNe, Nat.reduceBEq]
            · have ih := ih false ps es (by omega) (by omega)
              simp only [decide_eq_true c1, decide_eq_true c2, decide_eq_false c3, Bool.and_false, Bool.not_true, Bool.not_false] at g1 g2 g3 ⊢
              rw [decN_false _ _ ps _ es, ← ih]
              clear ih
              generalize (!ok) = big at *
              rw [go_loop]
              simp (disch := first | omega | (simp only [go_sem, List.length_take, List.length_drop] <;> omega) | assumption | decide | fail) only [go_sem, X_ingotref22_Decode, d_a, List.length_map, home_ownZ, evIdx_sl, Int.toNat_natCast, h2, Option.map_some, Fld.d, f1, d_b, d_c, hP, u1, u2, u3, f5, f6, g1, g2, g3, Bool.not_false, Nat.reduceLeDiff, Nat.reduceLT, Nat.reduceAdd, Int.reduceAdd, Int.reduceSub, Int.reduceNeg, ↓reduceIte, Nat.reduceEqDiff, reduceCtorEq, Int.reduceBEq, Int.reduceBNe, Nat.reduceBEq]
          · have ih := ih false ps es (by omega) (by omega)
            simp only [decide_eq_true c1, decide_eq_false c2, Bool.and_false, Bool.false_and, Bool.not_true, Bool.not_false] at g1 g2 ⊢
            rw [decN_false _ _ ps _ es, ← ih]
            clear ih
            generalize (!ok) = big at *
            rw [go_loop]
            simp (disch := first | omega | (simp only [go_sem, List.length_take, List.length_drop] <;> omega) | assumption | decide | fail) only [go_sem, X_ingotref22_Decode, d_a, List.length_map, home_ownZ, evIdx_sl, Int.toNat_natCast, h2, Option.map_some, Fld.d, f1, d_b, d_c, hP, u1, u2, u3, f5, f6, g1, g2, Bool.not_false, Nat.reduceLeDiff, Nat.reduceLT, Nat.reduceAdd, Int.reduceAdd, Int.reduceSub, Int.reduceNeg, ↓reduceIte, Nat.reduceEqDiff, reduceCtorEq, Int.reduceBEq, Int.reduceBNe, Nat.reduceBEq]
        · have ih := ih false ps es (by omega) (by omega)
          simp only [decide_eq_false c1, Bool.and_false, Bool.false_and, Bool.not_true, Bool.not_false] at g1 ⊢
          rw [decN_false _ _ ps _ es, ← ih]
          clear ih
          generalize (!ok) = big at *
          rw [go_loop]
          simp (disch := first | omega | (simp only [go_sem, List.length_take, List.length_drop] <;> omega) | assumption | decide | fail) only [go_sem, X_ingotref22_Decode, d_a, List.length_map, home_ownZ, evIdx_sl, Int.toNat_natCast, h2, Option.map_some, Fld.d, f1, d_b, d_c, hP, u1, u2, u3, f5, f6, g1, Bool.not_false, Nat.reduceLeDiff, Nat.reduceLT, Nat.reduceAdd, Int.reduceAdd, Int.reduceSub, Int.reduceNeg, ↓reduceIte, Nat.reduceEqDiff, reduceCtorEq, Int.reduceBEq, Int.reduceBNe, Nat.reduceBEq]
      · have f5 : ((x.num : Int) == 2) = true := by rw [hnum]; rfl
        have f6 : ((x.num : Int) == 1) = false := by rw [hnum]; rfl
        rw [if_neg (by omega)]
        have g4 : decide ((0 : Int) > 262144) = false := rfl
        by_cases c1 : w1 ≤ 262144
        · by_cases c2 : w2 ≤ 262144
          · have ih := ih ok ps (es ++ [(w1, w2)]) (by omega) (by simp; omega)
            unfold baseM at ih ⊢
            rw [ownE] at ih
            simp only [decide_eq_true c1, decide_eq_true c2, Bool.and_true, Nat.min_eq_left c1, Nat.min_eq_left c2, Bool.not_true] at g1 g2 ⊢
            rw [← ih]
            clear ih
            generalize (!ok) = big at *
            rw [go_loop]
            cases es with
            | nil =>
              simp (disch := first | omega | (simp only [go_sem, List.length_take, List.length_drop] <;> omega) | assumption | decide | fail) only [go_sem, X_ingotref22_Decode, d_a, List.length_map, home_ownZ, evIdx_sl, Int.toNat_natCast, h2, Option.map_some, Fld.d, f1, d_b, d_c, hP, u1, u2, u3, f5, f6, g1, g2, g4, List.map_nil, ownZ_nil, len2, List.nil_append, Nat.reduceLeDiff, Nat.reduceLT, Nat.reduceAdd, Int.reduceAdd, Int.reduceSub, Int.reduceNeg, ↓reduceIte, Nat.reduceEqDiff, reduceCtorEq, Int.reduceBEq, Int.reduceBNe, Nat.reduceBEq]
            | cons y es =>
              simp only [List.length_cons] at he
              rw [List.map_cons]
              generalize enD y = w
              simp (disch := first | omega | (simp only [go_sem, List.length_take, List.length_drop] <;> omega) | assumption | decide | fail) only [go_sem, X_ingotref22_Decode, d_a, List.length_map, home_ownZ, evIdx_sl, Int.toNat_natCast, h2, Option.map_some, Fld.d, f1, d_b, d_c, hP, u1, u2, u3, f5, f6, g1, g2, g4, ownZ_cons, len2, List.cons_append, Nat.reduceLeDiff, Nat.reduceLT, Nat.reduceAdd, Int.reduceAdd, Int.reduceSub, Int.reduceNeg, ↓reduceIte, Nat.reduceEqDiff, reduceCtorEq, Int.reduceBEq, Int.reduceBNe, Nat.reduceBEq]
          · have ih := ih false ps es (by omega) (by omega)
            simp only [decide_eq_true c1, decide_eq_false c2, Bool.and_false, Bool.false_and, Bool.not_true, Bool.not_false] at g1 g2 ⊢
            rw [decN_false _ _ ps _ es, ← ih]
            clear ih
            generalize (!ok) = big at *
            rw [go_loop]
            simp (disch := first | omega | (simp only [go_sem, List.length_take, List.length_drop] <;> omega) | assumption | decide | fail) only [go_sem, X_ingotref22_Decode, d_a, List.length_map, home_ownZ, evIdx_sl, Int.toNat_natCast, h2, Option.map_some, Fld.d, f1, d_b, d_c, hP, u1, u2, u3, f5, f6, g1, g2, g4, Bool.not_false, Nat.reduceLeDiff, Nat.reduceLT, Nat.reduceAdd, Int.reduceAdd, Int.reduceSub, Int.reduceNeg, ↓reduceIte, Nat.reduceEqDiff, reduceCtorEq, Int.reduceBEq, Int.reduceBNe, Nat.reduceBEq]
        · have ih := ih false ps es (by omega) (by omega)
          simp only [decide_eq_false c1, Bool.and_false, Bool.false_and, Bool.not_true, Bool.not_false] at g1 ⊢
          rw [decN_false _ _ ps _ es, ← ih]
          clear ih
          generalize (!ok) = big at *
          rw [go_loop]
          simp (disch := first | omega | (simp only [go_sem, List.length_take, List.length_drop] <;> omega) | assumption | decide | fail) only [go_sem, X_ingotref22_Decode, d_a, List.length_map, home_ownZ, evIdx_sl, Int.toNat_natCast, h2, Option.map_some, Fld.d, f1, d_b, d_c, hP, u1, u2, u3, f5, f6, g1, g4, Bool.not_false, Nat.reduceLeDiff, Nat.reduceLT, Nat.reduceAdd, Int.reduceAdd, Int.reduceSub, Int.reduceNeg, ↓reduceIte, Nat.reduceEqDiff, reduceCtorEq, Int.reduceBEq, Int.reduceBNe, Nat.reduceBEq]
theorem ref22_Decode_ans {l : List UInt8} (hl : l.length ≤ 1000000) : evL cfg n_ingotref22_Decode 0 [.d (.sl ((l).map byteD))] [] = some (fD (decM l), []) := by
  rw [o_ingotref22_Decode]
  have hP := ref3_Parse_ans l hl
  obtain ⟨k1, k2⟩ := parseM_ok l
  unfold decM
  generalize parseM l = pr at *
  obtain ⟨fs, e⟩ := pr
  simp only [parseD] at hP k1 k2 ⊢
  by_cases he : e ≠ 0
  · rw [if_pos he]
    have d1 : ((e : Int) != 0) = true := by simp; omega
    simp (disch := first | omega | (simp only [go_sem, List.length_take, List.length_drop] <;> omega) | assumption | decide | fail) only [go_sem, X_ingotref22_Decode, c_ingotref22_Decode, hP, d1, Nat.reduceLeDiff, Nat.reduceLT, Nat.reduceAdd, Int.reduceAdd, Int.reduceSub, Int.reduceNeg, ↓reduceIte, Nat.reduceEqDiff, reduceCtorEq, Int.reduceBEq, Int.reduceBNe, Nat.reduceBEq]
    rfl
  · rw [if_neg he]
    have he := Decidable.not_not.1 he
    subst he
    have h := ref22_loop fs (by omega) (fun f hf => Nat.le_trans (k1 f hf) hl) fs 0 true [] [] rfl (Nat.zero_le _) (Nat.zero_le _) (Nat.zero_le _)
    unfold baseM at h
    rw [List.map_nil, List.map_nil, ownZ_nil, ownZ_nil] at h
    simp (disch := first | omega | (simp only [go_sem, List.length_take, List.length_drop] <;> omega) | assumption | decide | fail) only [go_sem, X_ingotref22_Decode, c_ingotref22_Decode, hP, List.length_map, Nat.reduceLeDiff, Nat.reduceLT, Nat.reduceAdd, Int.reduceAdd, Int.reduceSub, Int.reduceNeg, ↓reduceIte, Nat.reduceEqDiff, reduceCtorEq, Int.reduceBEq, Int.reduceBNe, Nat.reduceBEq]
    exact h
end Go.Proofs.YtpflgebgmhnipaaGreatDoor
