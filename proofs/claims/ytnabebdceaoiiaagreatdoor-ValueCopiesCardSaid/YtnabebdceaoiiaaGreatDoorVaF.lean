/- Values: Check, in the document. -/
import Derived.Test.YtnabebdceaoiiaaGreatDoorTyB
import Derived.Test.YtnabebdceaoiiaaGreatDoorVaE
namespace Go.Proofs.YtnabebdceaoiiaaGreatDoor
open Go Go.Ev
set_option linter.unusedVariables false
set_option linter.unusedSimpArgs false
set_option maxHeartbeats 2000000

theorem pa (t : Ty) (v : Va) (i : Nat) (hi : i < 2 ^ 63) {x : Ty} (h : kidT t v.i i = some x) : evL cfg n_aw 0 [.d t.d, .d v.d, .d (.int .i64 ((i : Int)))] [] = some (.d x.d, []) := by
  rw [o_aw]
  unfold kidT at h
  rcases Bool.eq_false_or_eq_true ((t.kind == 10)) with d_a | d_a <;> have p_a := d_a <;> simp only [decide_eq_true_eq, decide_eq_false_iff_not, beq_iff_eq, beq_eq_false_iff_ne, ne_eq] at p_a 
  · rw [d_a, if_pos rfl] at h
    simp (disch := first | omega | (simp only [go_sem, List.length_take, List.length_drop] <;> omega) | assumption | decide | fail) only [go_sem, X_aw, c_aw, d_a, h, Nat.reduceLeDiff, Nat.reduceLT, Nat.reduceAdd, Int.reduceAdd, Int.reduceSub, Int.reduceNeg, ↓reduceIte, Nat.reduceEqDiff, reduceCtorEq, Int.reduceBEq, Int.reduceBNe, Nat.reduceBEq]
  · rw [d_a, if_neg (by decide)] at h
    rcases Bool.eq_false_or_eq_true ((t.kind == 11)) with d_b | d_b <;> have p_b := d_b <;> simp only [decide_eq_true_eq, decide_eq_false_iff_not, beq_iff_eq, beq_eq_false_iff_ne, ne_eq] at p_b 
    · rw [d_b, if_pos rfl] at h
      simp (disch := first | omega | (simp only [go_sem, List.length_take, List.length_drop] <;> omega) | assumption | decide | fail) only [go_sem, X_aw, c_aw, d_a, d_b, h, jc, o6, Nat.reduceLeDiff, Nat.reduceLT, Nat.reduceAdd, Int.reduceAdd, Int.reduceSub, Int.reduceNeg, ↓reduceIte, Nat.reduceEqDiff, reduceCtorEq, Int.reduceBEq, Int.reduceBNe, Nat.reduceBEq]
    · rw [d_b, if_neg (by decide)] at h
      rcases Bool.eq_false_or_eq_true ((t.kind == 13)) with d_c | d_c <;> have p_c := d_c <;> simp only [decide_eq_true_eq, decide_eq_false_iff_not, beq_iff_eq, beq_eq_false_iff_ne, ne_eq] at p_c 
      · rw [d_c, if_pos rfl] at h
        rcases Bool.eq_false_or_eq_true (decide (v.i < 0)) with d_e | d_e <;> have p_e := d_e <;> simp only [decide_eq_true_eq, decide_eq_false_iff_not, beq_iff_eq, beq_eq_false_iff_ne, ne_eq] at p_e 
        · rw [d_e, if_pos rfl] at h; cases h
        · rw [d_e, if_neg (by decide)] at h
          obtain ⟨n, hn⟩ : ∃ n : Nat, v.i = n := ⟨v.i.toNat, by omega⟩
          rw [hn, Int.toNat_natCast] at h
          simp (disch := first | omega | (simp only [go_sem, List.length_take, List.length_drop] <;> omega) | assumption | decide | fail) only [go_sem, X_aw, c_aw, d_a, d_b, d_c, hn, h, Nat.reduceLeDiff, Nat.reduceLT, Nat.reduceAdd, Int.reduceAdd, Int.reduceSub, Int.reduceNeg, ↓reduceIte, Nat.reduceEqDiff, reduceCtorEq, Int.reduceBEq, Int.reduceBNe, Nat.reduceBEq]
      · rw [d_c, if_neg (by decide)] at h
        simp (disch := first | omega | (simp only [go_sem, List.length_take, List.length_drop] <;> omega) | assumption | decide | fail) only [go_sem, X_aw, c_aw, d_a, d_b, d_c, h, Nat.reduceLeDiff, Nat.reduceLT, Nat.reduceAdd, Int.reduceAdd, Int.reduceSub, Int.reduceNeg, ↓reduceIte, Nat.reduceEqDiff, reduceCtorEq, Int.reduceBEq, Int.reduceBNe, Nat.reduceBEq]
def o9 (t : Ty) (n : Int) : Int :=
  if t.kind == 10 then (if decide (n > 16384) then 4 else 0)
  else if t.kind == 11 then (if n.tmod 2 != 0 then 1 else if decide (n > 32768) then 4 else 0)
  else if t.kind == 12 then (if n != t.kids.length then 1 else 0)
  else if t.kind == 13 then (if n != 1 then 1 else 0)
  else 0
/-- are the numbers right? -/
def numsM (t : Ty) (i n : Int) : Bool := !(n != 0 && t.kind != 9) && lp t i n
def bo (t : Ty) (v : Va) : Int :=
  if v.null then (if v.i != 0 || v.n != 0 || decide ((v.b.length : Int) > 0) || decide ((v.kids.length : Int) > 0) then 1 else 0)
  else if !numsM t v.i v.n || (decide ((v.b.length : Int) > 0) && !textK t.kind) || (decide ((v.kids.length : Int) > 0) && leafK t.kind) then 1
  else if decide ((v.b.length : Int) > 4096) || ((t.kind == 16 || t.kind == 17) && decide ((kx v.b : Int) > t.len)) then 4
  else o9 t v.kids.length
mutual
def rchkV (t : Ty) : Va → Int
  | .mk nl i n b ks => if bo t (.mk nl i n b ks) != 0 then bo t (.mk nl i n b ks) else if nl then 0 else i6 t i 0 ks
def i6 (t : Ty) (vi : Int) (j : Nat) : List Va → Int
  | [] => 0
  | k :: r => if t.kind == 11 && j % 2 == 0 && k.null then 1 else match kidT t vi j with
    | none => 0
    | some x => if rchkV x k != 0 then rchkV x k else i6 t vi (j + 1) r
end
theorem rchkV_eq (t : Ty) (v : Va) : rchkV t v = if bo t v != 0 then bo t v else if v.null then 0 else i6 t v.i 0 v.kids := by
  cases v with
  | mk nl i n b ks => rw [rchkV]; rfl
theorem rchkVs_nil (t : Ty) (vi : Int) (j : Nat) : i6 t vi j [] = 0 := by rw [i6]
theorem rchkVs_cons (t : Ty) (vi : Int) (j : Nat) (k : Va) (r : List Va) : i6 t vi j (k :: r) = if t.kind == 11 && j % 2 == 0 && k.null then 1 else match kidT t vi j with
    | none => 0
    | some x => if rchkV x k != 0 then rchkV x k else i6 t vi (j + 1) r := by rw [i6]
/-- all nodes of a type are right -/
def goodT : Nat → Ty → Prop
  | 0, _ => True
  | m + 1, t => ownM t = 0 ∧ ∀ k ∈ t.kids, goodT m k
theorem kids_own {t : Ty} (h : ownM t = 0) : wv t = true := by
  unfold ownM at h
  cases hk : wv t with
  | true => rfl
  | false =>
    rw [hk] at h
    split at h
    · cases h
    · split at h
      · cases h
      · simp at h
theorem kid_good {t : Ty} {v : Va} {j : Nat} (h : ownM t = 0) (hn : bo t v = 0) (hv : v.null = false) (hj : j < v.kids.length) : ∃ x, kidT t v.i j = some x ∧ x ∈ t.kids := by
  have hk := kids_own h
  unfold bo at hn
  rw [hv] at hn
  simp only [Bool.false_eq_true, if_false] at hn
  split at hn
  · cases hn
  · rename_i h1
    simp only [Bool.or_eq_true, not_or, Bool.and_eq_true, not_and, decide_eq_true_eq, Bool.not_eq_true', Bool.not_eq_false, Bool.not_eq_true] at h1
    split at hn
    · cases hn
    · have hl : leafK t.kind = false := h1.2 (by omega)
      have get : ∀ i, i < t.kids.length → ∃ x, t.kids[i]? = some x ∧ x ∈ t.kids := fun i hi => ⟨_, List.getElem?_eq_getElem hi, List.getElem_mem hi⟩
      unfold kidT
      unfold wv at hk
      unfold o9 at hn
      rcases Bool.eq_false_or_eq_true ((t.kind == 10)) with d_a | d_a <;> have p_a := d_a <;> simp only [decide_eq_true_eq, decide_eq_false_iff_not, beq_iff_eq, beq_eq_false_iff_ne, ne_eq] at p_a 
      · rw [d_a, if_pos rfl] at hk ⊢
        simp only [beq_iff_eq] at hk
        exact get 0 (by omega)
      · rw [d_a, if_neg (by decide)] at hk ⊢
        rw [d_a, if_neg (by decide)] at hn
        rcases Bool.eq_false_or_eq_true ((t.kind == 11)) with d_b | d_b <;> have p_b := d_b <;> simp only [decide_eq_true_eq, decide_eq_false_iff_not, beq_iff_eq, beq_eq_false_iff_ne, ne_eq] at p_b 
        · rw [d_b, if_pos rfl] at hk ⊢
          simp only [beq_iff_eq] at hk
          exact get (j % 2) (by omega)
        · rw [d_b, if_neg (by decide)] at hk ⊢
          rw [d_b, if_neg (by decide)] at hn
          rcases Bool.eq_false_or_eq_true ((t.kind == 13)) with d_c | d_c <;> have p_c := d_c <;> simp only [decide_eq_true_eq, decide_eq_false_iff_not, beq_iff_eq, beq_eq_false_iff_ne, ne_eq] at p_c 
          · rw [d_c, if_pos rfl]
            have hnum := h1.1.1
            unfold numsM at hnum
            simp only [Bool.and_eq_true] at hnum
            have hnum := hnum.2
            unfold lp at hnum
            have k0 : (t.kind == 0) = false := by rw [p_c]; rfl
            simp only [p_c] at hnum
            simp only [show ((13 : Int) == 0) = false from rfl, show ((13 : Int) == 1) = false from rfl, show ((13 : Int) == 2) = false from rfl, show ((13 : Int) == 3) = false from rfl, show ((13 : Int) == 15) = false from rfl, show ((13 : Int) == 4) = false from rfl, show ((13 : Int) == 14) = false from rfl, show ((13 : Int) == 9) = false from rfl, show ((13 : Int) == 13) = true from rfl, Bool.or_self, Bool.false_eq_true, if_false, if_true, Bool.and_eq_true, decide_eq_true_eq] at hnum
            rw [if_neg (by simp; omega)]
            exact get v.i.toNat (by omega)
          · rw [d_c, if_neg (by decide)]
            rcases Bool.eq_false_or_eq_true ((t.kind == 12)) with d_e | d_e <;> have p_e := d_e <;> simp only [decide_eq_true_eq, decide_eq_false_iff_not, beq_iff_eq, beq_eq_false_iff_ne, ne_eq] at p_e 
            · rw [d_e, if_pos rfl] at hn
              split at hn
              · cases hn
              · rename_i h5
                simp only [bne_iff_ne, ne_eq, Classical.not_not] at h5
                exact get j (by omega)
            · exfalso
              unfold leafK at hl
              rw [d_a, d_b, d_c, d_e] at hl
              cases hl
theorem ref14_Check_loop (t : Ty) (v : Va) (hv0 : v.null = false) (hv : v.kids.length < 2 ^ 63) (hg : ∀ j, j < v.kids.length → ∃ x, kidT t v.i j = some x ∧ x ∈ t.kids) (IH : ∀ k ∈ v.kids, ∀ x ∈ t.kids, evL cfg n_ab 0 [.d x.d, .d k.d] [] = some (.d (.int .i64 (rchkV x k)), [])) : ∀ (r : List Va) (j : Nat), v.kids.drop j = r → j ≤ v.kids.length →
    go X_ab [.c (.loop aaz), .b 1, .c (.seq za .ret)] ⟨[(2, .ref 0 2 0), (3, .ref 0 3 0), (5, .d (.int .i64 ((v.kids.length : Int)))), (6, .d (.int .i64 ((j : Int))))], boxT 2 t ++ boxW 3 false v⟩ = some (.d (.int .i64 (i6 t v.i j r)), [])
  | [], j, hr, hj => by
    have h1 := dp hr
    have : j = v.kids.length := by omega
    subst this
    have d_a : decide ((v.kids.length : Int) < v.kids.length) = false := by simp <;> omega
    rw [go_loop, rchkVs_nil]
    simp (disch := first | omega | (simp only [go_sem, List.length_take, List.length_drop] <;> omega) | assumption | decide | fail) only [go_sem, X_ab, d_a, boxT, boxW, Nat.reduceLeDiff, Nat.reduceLT, Nat.reduceAdd, Int.reduceAdd, Int.reduceSub, Int.reduceNeg, ↓reduceIte, Nat.reduceEqDiff, reduceCtorEq, Int.reduceBEq, Int.reduceBNe, Nat.reduceBEq]
  | k :: r, j, hr, hj => by
    obtain ⟨hlt, hc, hr'⟩ := e9 hr
    obtain ⟨x, hx, hxm⟩ := hg j hlt
    have hk := IH k (List.mem_of_getElem? hc) x hxm
    have hkid := pa t v j (by omega) hx
    have ih := ref14_Check_loop t v hv0 hv hg IH r (j + 1) hr' (by omega)
    simp only [boxT, boxW, List.cons_append, List.nil_append] at ih
    have d_a : decide ((j : Int) < v.kids.length) = true := by simp <;> omega
    have e1 : (j : Int) + 1 = ((j + 1 : Nat) : Int) := by omega
    have e2 : (((j % 2 : Nat) : Int) == 0) = (j % 2 == 0) := by
      rcases Nat.mod_two_eq_zero_or_one j with h | h <;> rw [h] <;> rfl
    rw [go_loop, rchkVs_cons, hx]
    simp (disch := first | omega | (simp only [go_sem, List.length_take, List.length_drop] <;> omega) | assumption | decide | fail) only [go_sem, X_ab, d_a, hc, hkid, hk, boxT, boxW, e1, e2, ih, jc, o6, bne, Nat.reduceLeDiff, Nat.reduceLT, Nat.reduceAdd, Int.reduceAdd, Int.reduceSub, Int.reduceNeg, ↓reduceIte, Nat.reduceEqDiff, reduceCtorEq, Int.reduceBEq, Int.reduceBNe, Nat.reduceBEq]
    repeat' ((try rw [goQ_b]) <;> split <;> rename_i hh <;> (try simp only [Bool.not_eq_true, Bool.not_eq_false, Bool.not_eq_true', Bool.not_eq_false'] at hh) <;> (try simp (disch := first | omega | (simp only [go_sem, List.length_take, List.length_drop] <;> omega) | assumption | decide | fail) only [*, go_sem, X_ab, d_a, hc, hkid, hk, boxT, boxW, e1, e2, ih, jc, o6, bne, Nat.reduceLeDiff, Nat.reduceLT, Nat.reduceAdd, Int.reduceAdd, Int.reduceSub, Int.reduceNeg, ↓reduceIte, Nat.reduceEqDiff, reduceCtorEq, Int.reduceBEq, Int.reduceBNe, Nat.reduceBEq]))
theorem ref14_Check_ans : ∀ (n : Nat) (v : Va) (t : Ty), v.size ≤ n → okV v → goodT n t → evL cfg n_ab 0 [.d t.d, .d v.d] [] = some (.d (.int .i64 (rchkV t v)), [])
  | 0, v, t, h, _, _ => by have := v.size_pos; omega
  | n + 1, v, t, h, hv, hg => by
    obtain ⟨h1, h2, h3, h4⟩ := (okV_eq v).1 hv
    have IH : ∀ k ∈ v.kids, ∀ x ∈ t.kids, evL cfg n_ab 0 [.d x.d, .d k.d] [] = some (.d (.int .i64 (rchkV x k)), []) := fun k hk x hx => ref14_Check_ans n k x (by have := Va.size_kid hk; omega) (okVs_mem h4 hk) (hg.2 x hx)
    have hnum : evL cfg n_ae 0 [.d t.d, .d (.int .i64 (v.i)), .d (.int .i64 (v.n))] [] = some (.d (.bool (numsM t v.i v.n)), []) := jq t v.i v.n h1
    have hsg := li h2
    rw [o_ab, rchkV_eq]
    cases hnl : v.null with
    | true =>
      have e : bo t v = if v.i != 0 || v.n != 0 || decide ((v.b.length : Int) > 0) || decide ((v.kids.length : Int) > 0) then 1 else 0 := by unfold bo; rw [hnl]; rfl
      rw [e]
      simp (disch := first | omega | (simp only [go_sem, List.length_take, List.length_drop] <;> omega) | assumption | decide | fail) only [go_sem, X_ab, c_ab, hnl, bne, Nat.reduceLeDiff, Nat.reduceLT, Nat.reduceAdd, Int.reduceAdd, Int.reduceSub, Int.reduceNeg, ↓reduceIte, Nat.reduceEqDiff, reduceCtorEq, Int.reduceBEq, Int.reduceBNe, Nat.reduceBEq]
      repeat' ((try rw [goQ_b]) <;> split <;> rename_i hh <;> (try simp only [Bool.not_eq_true, Bool.not_eq_false, Bool.not_eq_true', Bool.not_eq_false'] at hh) <;> (try simp (disch := first | omega | (simp only [go_sem, List.length_take, List.length_drop] <;> omega) | assumption | decide | fail) only [*, go_sem, hnl, bne, Nat.reduceLeDiff, Nat.reduceLT, Nat.reduceAdd, Int.reduceAdd, Int.reduceSub, Int.reduceNeg, ↓reduceIte, Nat.reduceEqDiff, reduceCtorEq, Int.reduceBEq, Int.reduceBNe, Nat.reduceBEq]))
    | false =>
      by_cases hz : bo t v = 0
      · have hl := ref14_Check_loop t v hnl h3 (fun j hj => kid_good hg.1 hz hnl hj) IH v.kids 0 rfl (Nat.zero_le _)
        simp only [boxT, boxW, List.cons_append, List.nil_append, nc0] at hl
        rw [hz, if_neg (by decide)]
        unfold bo o9 at hz
        rw [hnl] at hz
        simp (disch := first | omega | (simp only [go_sem, List.length_take, List.length_drop] <;> omega) | assumption | decide | fail) only [go_sem, X_ab, c_ab, hnl, hnum, hsg, bu, co, hl, jc, bne, Nat.reduceLeDiff, Nat.reduceLT, Nat.reduceAdd, Int.reduceAdd, Int.reduceSub, Int.reduceNeg, ↓reduceIte, Nat.reduceEqDiff, reduceCtorEq, Int.reduceBEq, Int.reduceBNe, Nat.reduceBEq]
        repeat' ((try rw [goQ_b]) <;> split <;> rename_i hh <;> (try simp only [Bool.not_eq_true, Bool.not_eq_false, Bool.not_eq_true', Bool.not_eq_false'] at hh) <;> (try simp (disch := first | omega | (simp only [go_sem, List.length_take, List.length_drop] <;> omega) | assumption | decide | fail) only [*, go_sem, hnl, hnum, hsg, bu, co, hl, jc, bne, Nat.reduceLeDiff, Nat.reduceLT, Nat.reduceAdd, Int.reduceAdd, Int.reduceSub, Int.reduceNeg, ↓reduceIte, Nat.reduceEqDiff, reduceCtorEq, Int.reduceBEq, Int.reduceBNe, Nat.reduceBEq]))
        all_goals (exfalso; revert hz; simp (disch := first | omega | fail) only [*, go_sem, bne, Int.reduceEq, Int.reduceNeg, imp_false, not_true_eq_false, not_false_eq_true, forall_const, implies_true, Nat.reduceLeDiff, Nat.reduceLT, Nat.reduceAdd, Int.reduceAdd, Int.reduceSub, Int.reduceNeg, ↓reduceIte, Nat.reduceEqDiff, reduceCtorEq, Int.reduceBEq, Int.reduceBNe, Nat.reduceBEq])
      · have hz' : (bo t v != 0) = true := by simpa using hz
        rw [hz', if_pos rfl]
        unfold bo o9 at hz ⊢
        rw [hnl] at hz ⊢
        simp (disch := first | omega | (simp only [go_sem, List.length_take, List.length_drop] <;> omega) | assumption | decide | fail) only [go_sem, X_ab, c_ab, hnl, hnum, hsg, bu, co, jc, bne, Nat.reduceLeDiff, Nat.reduceLT, Nat.reduceAdd, Int.reduceAdd, Int.reduceSub, Int.reduceNeg, ↓reduceIte, Nat.reduceEqDiff, reduceCtorEq, Int.reduceBEq, Int.reduceBNe, Nat.reduceBEq]
        repeat' ((try rw [goQ_b]) <;> split <;> rename_i hh <;> (try simp only [Bool.not_eq_true, Bool.not_eq_false, Bool.not_eq_true', Bool.not_eq_false'] at hh) <;> (try simp (disch := first | omega | (simp only [go_sem, List.length_take, List.length_drop] <;> omega) | assumption | decide | fail) only [*, go_sem, hnl, hnum, hsg, bu, co, jc, bne, Nat.reduceLeDiff, Nat.reduceLT, Nat.reduceAdd, Int.reduceAdd, Int.reduceSub, Int.reduceNeg, ↓reduceIte, Nat.reduceEqDiff, reduceCtorEq, Int.reduceBEq, Int.reduceBNe, Nat.reduceBEq]))
        all_goals (exfalso; revert hz; simp (disch := first | omega | fail) only [*, go_sem, bne, Int.reduceEq, Int.reduceNeg, imp_false, not_true_eq_false, not_false_eq_true, forall_const, implies_true, Nat.reduceLeDiff, Nat.reduceLT, Nat.reduceAdd, Int.reduceAdd, Int.reduceSub, Int.reduceNeg, ↓reduceIte, Nat.reduceEqDiff, reduceCtorEq, Int.reduceBEq, Int.reduceBNe, Nat.reduceBEq])
end Go.Proofs.YtnabebdceaoiiaaGreatDoor
