/- value.Same: the same as ref14's. -/
import Derived.Test.YtnabebdceaoiiaaGreatDoorVaH
namespace Go.Proofs.YtnabebdceaoiiaaGreatDoor
open Go Go.Ev
set_option linter.unusedVariables false
set_option linter.unusedSimpArgs false
set_option maxHeartbeats 4000000

def boxW1 (k : Nat) (v : Va) : List (Cel × V) := [(⟨1, k, 0⟩, .d (.bool v.null)), (⟨1, k, 1⟩, .d (.int .i64 v.i)), (⟨1, k, 2⟩, .d (.int .i64 v.n)), (⟨1, k, 3⟩, .d (txt v.b)), (⟨1, k, 4⟩, .d (.sl (v.kids.map Va.d)))]
def memS (t : Ty) (a b : Va) : List (Cel × V) := boxT 3 t ++ (boxV 4 a ++ boxV 5 b)
def memO : Option (Va × Va) → List (Cel × V)
  | none => []
  | some p => boxW1 8 p.1 ++ boxW1 9 p.2
theorem memO_none : memO none = [] := rfl
theorem memO_some (k x : Va) : memO (some (k, x)) = boxW1 8 k ++ boxW1 9 x := rfl
theorem value_Same_1_ans (t : Ty) (a b k x : Va) (IH : evL cfg n_value_Same 0 [.d t.d, .d k.d, .d x.d] [] = some (.d (.bool (sameV k x)), [])) :
    evL cfg n_value_Same_1 2 [.d k.d, .d x.d, .ref 0 3 0] (memS t a b ++ (boxW1 8 k ++ boxW1 9 x)) = some (.d (.bool (sameV k x)), memS t a b ++ (boxW1 8 k ++ boxW1 9 x)) := by
  rw [e_value_Same_1 2 _ _ rfl rfl]
  simp (disch := first | omega | (simp only [go_sem, List.length_take, List.length_drop] <;> omega) | assumption | decide | fail) only [go_sem, c_value_Same_1, memS, boxT, boxV, boxW1, IH, List.cons_append, List.nil_append, Nat.reduceLeDiff, Nat.reduceLT, Nat.reduceAdd, Int.reduceAdd, Int.reduceSub, Int.reduceNeg, ↓reduceIte, Nat.reduceEqDiff, reduceCtorEq, Int.reduceBEq, Int.reduceBNe, Nat.reduceBEq]
theorem equalF_loop (t : Ty) (a b : Va) (hl : a.kids.length = b.kids.length) (hz : a.kids.length < 2 ^ 63) (IH : ∀ k ∈ a.kids, ∀ x, evL cfg n_value_Same 0 [.d t.d, .d k.d, .d x.d] [] = some (.d (.bool (sameV k x)), [])) : ∀ (r s : List Va) (i : Nat) (o : Option (Va × Va)), a.kids.drop i = r → b.kids.drop i = s → i ≤ a.kids.length →
    go ⟨cfg, 1, [.t 6]⟩ [.c (.loop b_slices_EqualFunc_Sapi_Value_Sapi_Value_api_Value_api_Value_10), .b 0, .c (.seq r_slices_EqualFunc_Sapi_Value_Sapi_Value_api_Value_api_Value_11 .ret)] ⟨[(1, .d (.sl (b.kids.map Va.d))), (2, .clo n_value_Same_1 [] [.ref 0 3 0]), (15, .d (.sl (a.kids.map Va.d))), (16, .d (.int .i64 ((a.kids.length : Int)))), (17, .d (.int .i64 ((i : Int))))], memS t a b ++ memO o⟩ = some (.d (.bool (sameVs r s)), memS t a b)
  | [], s, i, o, hr, hs, hi => by
    have := dropEnd hr
    have : i = a.kids.length := by omega
    subst this
    have d_c : decide ((a.kids.length : Int) < a.kids.length) = false := by simp <;> omega
    rw [go_loop, sameVs_nil]
    rcases o with _ | ⟨p, q⟩ <;> simp (disch := first | omega | (simp only [go_sem, List.length_take, List.length_drop] <;> omega) | assumption | decide | fail) only [go_sem, d_c, memS, memO_none, memO_some, boxT, boxV, boxW1, List.cons_append, List.nil_append, List.append_nil, Nat.reduceLeDiff, Nat.reduceLT, Nat.reduceAdd, Int.reduceAdd, Int.reduceSub, Int.reduceNeg, ↓reduceIte, Nat.reduceEqDiff, reduceCtorEq, Int.reduceBEq, Int.reduceBNe, Nat.reduceBEq]
  | k :: r, [], i, o, hr, hs, hi => by
    have h1 := dropEnd hs
    obtain ⟨hlt, _, _⟩ := dropAt hr
    omega
  | k :: r, x :: s, i, o, hr, hs, hi => by
    obtain ⟨hlt, hc, hr'⟩ := dropAt hr
    obtain ⟨hlt', hc', hs'⟩ := dropAt hs
    have hf := value_Same_1_ans t a b k x (IH k (List.mem_of_getElem? hc) x)
    have d_c : decide ((i : Int) < a.kids.length) = true := by simp <;> omega
    have e1 : (i : Int) + 1 = ((i + 1 : Nat) : Int) := by omega
    have ih := equalF_loop t a b hl hz IH r s (i + 1) (some (k, x)) hr' hs' (by omega)
    rw [go_loop, sameVs_cons]
    generalize sameV k x = q at *
    simp only [memS, memO_none, memO_some, boxT, boxV, boxW1, List.cons_append, List.nil_append, List.append_nil] at hf ih ⊢
    cases q with
    | false => rcases o with _ | ⟨u, v⟩ <;> simp (disch := first | omega | (simp only [go_sem, List.length_take, List.length_drop] <;> omega) | assumption | decide | fail) only [go_sem, d_c, hc, hc', hf, memO_none, memO_some, boxW1, List.cons_append, List.nil_append, List.append_nil, Nat.reduceLeDiff, Nat.reduceLT, Nat.reduceAdd, Int.reduceAdd, Int.reduceSub, Int.reduceNeg, ↓reduceIte, Nat.reduceEqDiff, reduceCtorEq, Int.reduceBEq, Int.reduceBNe, Nat.reduceBEq]
    | true => rcases o with _ | ⟨u, v⟩ <;> simp (disch := first | omega | (simp only [go_sem, List.length_take, List.length_drop] <;> omega) | assumption | decide | fail) only [go_sem, d_c, hc, hc', hf, memO_none, memO_some, boxW1, List.cons_append, List.nil_append, List.append_nil, e1, ih, Nat.reduceLeDiff, Nat.reduceLT, Nat.reduceAdd, Int.reduceAdd, Int.reduceSub, Int.reduceNeg, ↓reduceIte, Nat.reduceEqDiff, reduceCtorEq, Int.reduceBEq, Int.reduceBNe, Nat.reduceBEq]
theorem equalF_ans (t : Ty) (a b : Va) (hz : a.kids.length < 2 ^ 63) (IH : ∀ k ∈ a.kids, ∀ x, evL cfg n_value_Same 0 [.d t.d, .d k.d, .d x.d] [] = some (.d (.bool (sameV k x)), [])) :
    evL cfg n_slices_EqualFunc_Sapi_Value_Sapi_Value_api_Value_api_Value 1 [.d (.sl (a.kids.map Va.d)), .d (.sl (b.kids.map Va.d)), .clo n_value_Same_1 [] [.ref 0 3 0]] (memS t a b) = some (.d (.bool (if (a.kids.length : Int) != (b.kids.length : Int) then false else sameVs a.kids b.kids)), memS t a b) := by
  rw [e_slices_EqualFunc_Sapi_Value_Sapi_Value_api_Value_api_Value 1 _ _ rfl rfl]
  rcases Bool.eq_false_or_eq_true ((a.kids.length : Int) != (b.kids.length : Int)) with x | x
  · simp (disch := first | omega | (simp only [go_sem, List.length_take, List.length_drop] <;> omega) | assumption | decide | fail) only [go_sem, c_slices_EqualFunc_Sapi_Value_Sapi_Value_api_Value_api_Value, memS, boxT, boxV, x, List.cons_append, List.nil_append, Nat.reduceLeDiff, Nat.reduceLT, Nat.reduceAdd, Int.reduceAdd, Int.reduceSub, Int.reduceNeg, ↓reduceIte, Nat.reduceEqDiff, reduceCtorEq, Int.reduceBEq, Int.reduceBNe, Nat.reduceBEq]
  · have hl : a.kids.length = b.kids.length := by simp at x; omega
    have h0 := equalF_loop t a b hl hz IH a.kids b.kids 0 none rfl rfl (Nat.zero_le _)
    simp only [memS, memO_none, boxT, boxV, nc0, List.cons_append, List.nil_append, List.append_nil] at h0
    simp (disch := first | omega | (simp only [go_sem, List.length_take, List.length_drop] <;> omega) | assumption | decide | fail) only [go_sem, c_slices_EqualFunc_Sapi_Value_Sapi_Value_api_Value_api_Value, memS, boxT, boxV, x, List.cons_append, List.nil_append, h0, Nat.reduceLeDiff, Nat.reduceLT, Nat.reduceAdd, Int.reduceAdd, Int.reduceSub, Int.reduceNeg, ↓reduceIte, Nat.reduceEqDiff, reduceCtorEq, Int.reduceBEq, Int.reduceBNe, Nat.reduceBEq]
/-- a call under a condition that hands boxes on -/
theorem m_guard {dep : Nat} {s : St} {k g : Nat} {own : Bool} {f : FuncId} {args : List IOpd} (hc : cfg.clip f = false) (hg : s.get (.slot g) = some (.d (.bool true))) : stepM cfg (evL cfg) dep s (og k g true (.call own f args)) = (vals cfg s.get args).bind fun vs => callM (evL cfg) dep s (some k) own f vs := by
  unfold stepM
  simp only [guardOk, hg, isCallOp, clipArg_none hc, target]
  cases vals cfg s.get args <;> rfl
theorem value_Same_aux (t : Ty) : ∀ (m : Nat) (a b : Va), a.size ≤ m → okV a → evL cfg n_value_Same 0 [.d t.d, .d a.d, .d b.d] [] = some (.d (.bool (sameV a b)), [])
  | 0, v, b, h, _ => by have := v.size_pos; omega
  | m + 1, a, b, h, ho => by
    obtain ⟨_, _, hz, h4⟩ := (okV_eq a).1 ho
    have IH : ∀ k ∈ a.kids, ∀ x, evL cfg n_value_Same 0 [.d t.d, .d k.d, .d x.d] [] = some (.d (.bool (sameV k x)), []) := fun k hk x => value_Same_aux t m k x (by have := Va.size_kid hk; omega) (okVs_mem h4 hk)
    have hf := equalF_ans t a b hz IH
    simp only [memS, boxT, boxV, List.cons_append, List.nil_append, List.append_nil] at hf
    rw [o_value_Same, sameV_eq]
    rcases Bool.eq_false_or_eq_true (a.null == b.null) with x1 | x1
    rotate_left
    · simp (disch := first | omega | (simp only [go_sem, List.length_take, List.length_drop] <;> omega) | assumption | decide | fail) only [go_sem, X_value_Same, c_value_Same, x1, Nat.reduceLeDiff, Nat.reduceLT, Nat.reduceAdd, Int.reduceAdd, Int.reduceSub, Int.reduceNeg, ↓reduceIte, Nat.reduceEqDiff, reduceCtorEq, Int.reduceBEq, Int.reduceBNe, Nat.reduceBEq]
    · rcases Bool.eq_false_or_eq_true (a.i == b.i) with x2 | x2
      rotate_left
      · simp (disch := first | omega | (simp only [go_sem, List.length_take, List.length_drop] <;> omega) | assumption | decide | fail) only [go_sem, X_value_Same, c_value_Same, x1, x2, bne, Nat.reduceLeDiff, Nat.reduceLT, Nat.reduceAdd, Int.reduceAdd, Int.reduceSub, Int.reduceNeg, ↓reduceIte, Nat.reduceEqDiff, reduceCtorEq, Int.reduceBEq, Int.reduceBNe, Nat.reduceBEq]
      · rcases Bool.eq_false_or_eq_true (a.n == b.n) with x3 | x3
        rotate_left
        · simp (disch := first | omega | (simp only [go_sem, List.length_take, List.length_drop] <;> omega) | assumption | decide | fail) only [go_sem, X_value_Same, c_value_Same, x1, x2, x3, bne, Nat.reduceLeDiff, Nat.reduceLT, Nat.reduceAdd, Int.reduceAdd, Int.reduceSub, Int.reduceNeg, ↓reduceIte, Nat.reduceEqDiff, reduceCtorEq, Int.reduceBEq, Int.reduceBNe, Nat.reduceBEq]
        · rcases Bool.eq_false_or_eq_true (a.b == b.b) with x4 | x4
          rotate_left
          · simp (disch := first | omega | (simp only [go_sem, List.length_take, List.length_drop] <;> omega) | assumption | decide | fail) only [go_sem, X_value_Same, c_value_Same, x1, x2, x3, x4, bytes_Equal_ans, bne, Nat.reduceLeDiff, Nat.reduceLT, Nat.reduceAdd, Int.reduceAdd, Int.reduceSub, Int.reduceNeg, ↓reduceIte, Nat.reduceEqDiff, reduceCtorEq, Int.reduceBEq, Int.reduceBNe, Nat.reduceBEq]
          · simp (disch := first | omega | (simp only [go_sem, List.length_take, List.length_drop] <;> omega) | assumption | decide | fail) only [go_sem, X_value_Same, c_value_Same, x1, x2, x3, x4, bytes_Equal_ans, bne, Nat.reduceLeDiff, Nat.reduceLT, Nat.reduceAdd, Int.reduceAdd, Int.reduceSub, Int.reduceNeg, ↓reduceIte, Nat.reduceEqDiff, reduceCtorEq, Int.reduceBEq, Int.reduceBNe, Nat.reduceBEq]
            rw [m_guard rfl rfl]
            simp (disch := first | omega | (simp only [go_sem, List.length_take, List.length_drop] <;> omega) | assumption | decide | fail) only [go_sem, X_value_Same, c_value_Same, x1, x2, x3, x4, hf, bne, Nat.reduceLeDiff, Nat.reduceLT, Nat.reduceAdd, Int.reduceAdd, Int.reduceSub, Int.reduceNeg, ↓reduceIte, Nat.reduceEqDiff, reduceCtorEq, Int.reduceBEq, Int.reduceBNe, Nat.reduceBEq]
theorem value_Same_ans (t : Ty) {a : Va} (b : Va) (h : okV a) : evL cfg n_value_Same 0 [.d t.d, .d a.d, .d b.d] [] = some (.d (.bool (sameV a b)), []) := value_Same_aux t _ a b (Nat.le_refl _) h
end Go.Proofs.YtnabebdceaoiiaaGreatDoor
