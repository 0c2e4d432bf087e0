/- The law FootTypes: both writers of a tree's columns write the same bytes behind any bytes. No condition. -/
import Derived.Test.YtpnhljhciibfnaaGreatDoorTyG
import Derived.Test.YtpnhljhciibfnaaGreatDoorRdt
namespace Go.Proofs.YtpnhljhciibfnaaGreatDoor
open Go Go.Ev
set_option linter.unusedVariables false
set_option linter.unusedSimpArgs false
set_option maxHeartbeats 4000000

theorem foot_types (t : Ty) (b : List UInt8) (hb : b.length ≤ 500) (hf : fewTB t = true) (h : (chkT 1 0 t).2 = 0) : ∃ q : List UInt8, q.length ≤ 50000 ∧ q ≠ [] ∧ evL cfg n_foot_PutTypes 0 [.d (.sl ((b).map byteD)), .d t.d] [] = some (.d (.sl ((q).map byteD)), []) ∧
    evL cfg n_ingotref21_PutTypes 0 [ownZ 1 (b.map byteD), .d t.d] [] = some (.own false 1 (q.map byteD), []) ∧ evL cfg n_ingotref21_PutTypes 0 [.own false 1 (b.map byteD), .d t.d] [] = some (.own false 1 (q.map byteD), []) := by
  obtain ⟨hk, hs⟩ := few_all hf
  have hz := chk_few h
  have ok := nd_ok h
  have hl := nds_len h
  have hne : ∃ y r, flatR 0 (-1) 1 t = y :: r := by cases t with
    | mk k ns ks l p s => exact ⟨_, _, by rw [flatR]⟩
  have hlen : (flatR 0 (-1) 1 t).length ≤ 100000 := by
    have := flatT_len t 0 (-1) 1
    rw [flatT_map, List.length_map] at this
    omega
  have f1 := types_Flatten_ok t hk h
  have f2 := ref13_Flatten_ok t hs h
  have own : ∀ x ∈ flatR 0 (-1) 1 t, ownM x.1 = 0 := fun x hx => (chk_nodes _ t 1 0 0 (-1) 1 (Nat.le_refl _) h x hx).1
  rw [flatT_map, show (flatR 0 (-1) 1 t).map (fun n => nodT n.1 n.2.1 n.2.2.1 n.2.2.2) = ((flatR 0 (-1) 1 t).map fun n => (ndOf n, D.int .i64 n.2.2.1, D.int .i64 n.2.2.2)).map nodP by
    rw [List.map_map]; exact List.map_congr_left fun x hx => ndOf_P (own x hx)] at f1
  rw [show (flatR 0 (-1) 1 t).map sigD = ((flatR 0 (-1) 1 t).map fun n => (ndOf n, D.sl (n.1.kids.map Ty.d), D.int .i64 n.2.2.1, D.int .i64 n.2.2.2)).map nodR by
    rw [List.map_map]; exact List.map_congr_left fun x hx => ndOf_R (own x hx)] at f2
  have e1 : ((flatR 0 (-1) 1 t).map fun n => (ndOf n, D.int .i64 n.2.2.1, D.int .i64 n.2.2.2)).map Prod.fst = (flatR 0 (-1) 1 t).map ndOf := by rw [List.map_map]; rfl
  have e2 : ((flatR 0 (-1) 1 t).map fun n => (ndOf n, D.sl (n.1.kids.map Ty.d), D.int .i64 n.2.2.1, D.int .i64 n.2.2.2)).map Prod.fst = (flatR 0 (-1) 1 t).map ndOf := by rw [List.map_map]; rfl
  have hqn : b ++ ndsB ((flatR 0 (-1) 1 t).map ndOf) ≠ [] := by
    obtain ⟨y, r, e⟩ := hne
    rw [e, List.map_cons, ndsB_cons]
    simp [bytesF_ne]
  rw [t.d_eq] at f1 f2 ⊢
  refine ⟨b ++ ndsB ((flatR 0 (-1) 1 t).map ndOf), by rw [List.length_append]; omega, hqn, ?_, ?_, ?_⟩
  · have := foot_PutTypes_ans b _ _ _ _ _ _ rfl rfl rfl rfl rfl rfl rfl rfl rfl rfl rfl rfl _ f1 (by rw [List.length_map]; exact hlen) (fun n hn => by
      obtain ⟨x, hx, rfl⟩ := List.mem_map.1 hn; exact ok x hx) (by rw [e1, List.length_append]; omega)
    rw [e1] at this; exact this
  · have := ref21_PutTypes_ans b _ _ _ _ _ _ rfl rfl rfl rfl rfl rfl rfl rfl rfl rfl rfl rfl _ f2 (by rw [List.length_map]; exact hlen) (fun n hn => by
      obtain ⟨x, hx, rfl⟩ := List.mem_map.1 hn; exact ok x hx) (by rw [e2, List.length_append]; omega)
    rw [e2, ownBy hqn] at this; exact this
  · have := ref21_PutTypes_own b _ _ _ _ _ _ rfl rfl rfl rfl rfl rfl rfl rfl rfl rfl rfl rfl _ f2 (by rw [List.length_map]; exact hlen) (by
      obtain ⟨y, r, e⟩ := hne; rw [e]; simp) (fun n hn => by
      obtain ⟨x, hx, rfl⟩ := List.mem_map.1 hn; exact ok x hx) (by rw [e2, List.length_append]; omega)
    rw [e2] at this; exact this
theorem bytesOf_byD (z : UInt8) (q : List UInt8) : bytesOf? (byteD z :: q.map byteD) = some (z :: q) := by rw [← List.map_cons]; exact bytesOf_map (z :: q)
theorem rowFootTypes (t : Ty) (b : List UInt8) (ht : tyIn t) (_ : b.length ≤ maxLen) : evL cfg n_ingotlaw21_FootTypes 0 [.d t.d, .d (.sl ((b).map byteD))] [] = some (.d (.bool (true)), []) := by
  rw [o_ingotlaw21_FootTypes]
  have h1 := law13_Few_ans t
  cases hf : fewTB t with
  | false =>
    rw [hf] at h1
    simp (disch := first | omega | (simp only [go_sem, List.length_take, List.length_drop] <;> omega) | assumption | decide | fail) only [go_sem, X_ingotlaw21_FootTypes, c_ingotlaw21_FootTypes, known_ok, h1, Nat.reduceLeDiff, Nat.reduceLT, Nat.reduceAdd, Int.reduceAdd, Int.reduceSub, Int.reduceNeg, ↓reduceIte, Nat.reduceEqDiff, reduceCtorEq, Int.reduceBEq, Int.reduceBNe, Nat.reduceBEq]
  | true =>
    rw [hf] at h1
    have h2 := ref13_Check_ans t (few_all hf).2
    rcases Bool.eq_false_or_eq_true ((chkT 1 0 t).2 != 0) with x | x
    · simp (disch := first | omega | (simp only [go_sem, List.length_take, List.length_drop] <;> omega) | assumption | decide | fail) only [go_sem, X_ingotlaw21_FootTypes, c_ingotlaw21_FootTypes, known_ok, h1, h2, x, Nat.reduceLeDiff, Nat.reduceLT, Nat.reduceAdd, Int.reduceAdd, Int.reduceSub, Int.reduceNeg, ↓reduceIte, Nat.reduceEqDiff, reduceCtorEq, Int.reduceBEq, Int.reduceBNe, Nat.reduceBEq]
    · have h3 : (chkT 1 0 t).2 = 0 := by simpa using x
      rw [h3] at h2
      by_cases hn : b.length > 500
      · have d_c : decide ((b.length : Int) > 500) = true := by simp <;> omega
        simp (disch := first | omega | (simp only [go_sem, List.length_take, List.length_drop] <;> omega) | assumption | decide | fail) only [go_sem, X_ingotlaw21_FootTypes, c_ingotlaw21_FootTypes, known_ok, h1, h2, List.length_map, d_c, Nat.reduceLeDiff, Nat.reduceLT, Nat.reduceAdd, Int.reduceAdd, Int.reduceSub, Int.reduceNeg, ↓reduceIte, Nat.reduceEqDiff, reduceCtorEq, Int.reduceBEq, Int.reduceBNe, Nat.reduceBEq]
      have d_c : decide ((b.length : Int) > 500) = false := by simp <;> omega
      obtain ⟨q, hq, hqn, p1, p2, p3⟩ := foot_types t b (by omega) hf h3
      cases q with
      | nil => exact absurd rfl hqn
      | cons z q =>
      clear hqn
      rw [List.length_cons] at hq
      cases b with
      | nil =>
        have c0 : decide ((0 : Int) > 500) = false := by decide
        simp only [List.map_nil, List.map_cons, ownZ_nil] at p1 p2 p3 ⊢
        simp (disch := first | omega | (simp only [go_sem, List.length_take, List.length_drop] <;> omega) | assumption | decide | fail) only [go_sem, X_ingotlaw21_FootTypes, c_ingotlaw21_FootTypes, known_ok, h1, h2, List.length_map, c0, p1, p2, p3, bytesOf_byD, Nat.reduceLeDiff, Nat.reduceLT, Nat.reduceAdd, Int.reduceAdd, Int.reduceSub, Int.reduceNeg, ↓reduceIte, Nat.reduceEqDiff, reduceCtorEq, Int.reduceBEq, Int.reduceBNe, Nat.reduceBEq]
      | cons y b =>
        rw [List.length_cons] at hn
        have c0 : decide (((b.length + 1 : Nat) : Int) > 500) = false := decide_eq_false (by omega)
        simp only [List.map_cons, ownZ_cons] at p1 p2 p3 ⊢
        simp (disch := first | omega | (simp only [go_sem, List.length_take, List.length_drop] <;> omega) | assumption | decide | fail) only [go_sem, X_ingotlaw21_FootTypes, c_ingotlaw21_FootTypes, known_ok, h1, h2, List.length_map, c0, p1, p2, p3, bytesOf_byD, Nat.reduceLeDiff, Nat.reduceLT, Nat.reduceAdd, Int.reduceAdd, Int.reduceSub, Int.reduceNeg, ↓reduceIte, Nat.reduceEqDiff, reduceCtorEq, Int.reduceBEq, Int.reduceBNe, Nat.reduceBEq]
end Go.Proofs.YtpnhljhciibfnaaGreatDoor
