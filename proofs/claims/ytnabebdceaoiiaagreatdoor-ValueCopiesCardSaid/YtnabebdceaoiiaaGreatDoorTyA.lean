/- Types: few; what is wrong of one by itself; Check, in the document. -/
import Derived.Test.YtnabebdceaoiiaaGreatDoorVaE
import Derived.Test.YtnabebdceaoiiaaGreatDoorBas
import Derived.Test.YtnabebdceaoiiaaGreatDoorL9
namespace Go.Proofs.YtnabebdceaoiiaaGreatDoor
open Go Go.Ev
set_option linter.unusedVariables false
set_option linter.unusedSimpArgs false
set_option maxHeartbeats 2000000

def ep (ns : List Tx) : Bool := ns.any fun s => decide ((s.length : Int) > 200)
mutual
def fewT (deep : Nat) : Ty → Int
  | .mk _ ns ks _ _ _ => if decide ((deep : Int) > 20) || decide ((ks.length : Int) > 300) || decide ((ns.length : Int) > 300) then 1000 else if ep ns then 1000 else fewTs (deep + 1) 1 ks
def fewTs (deep : Nat) (n : Int) : List Ty → Int
  | [] => n
  | k :: r => if decide (n + fewT deep k > 1000) then 1000 else fewTs deep (n + fewT deep k) r
end
theorem fewT_eq (deep : Nat) (t : Ty) : fewT deep t = if decide ((deep : Int) > 20) || decide ((t.kids.length : Int) > 300) || decide ((t.names.length : Int) > 300) then 1000 else if ep t.names then 1000 else fewTs (deep + 1) 1 t.kids := by
  cases t with
  | mk k ns ks l p s => rw [fewT]; rfl
theorem fewTs_cons (deep : Nat) (n : Int) (k : Ty) (r : List Ty) : fewTs deep n (k :: r) = if decide (n + fewT deep k > 1000) then 1000 else fewTs deep (n + fewT deep k) r := by rw [fewTs]
theorem fewTs_nil (deep : Nat) (n : Int) : fewTs deep n [] = n := by rw [fewTs]
theorem fewT_bd : ∀ (m : Nat) (t : Ty) (deep : Nat), t.size ≤ m → 1 ≤ fewT deep t ∧ fewT deep t ≤ 1000
  | 0, t, deep, h => by have := t.size_pos; omega
  | m + 1, t, deep, h => by
    rw [fewT_eq]
    split
    · omega
    · split
      · omega
      · have key : ∀ (r : List Ty) (n : Int), (∀ k ∈ r, k.size ≤ m) → 1 ≤ n → n ≤ 1000 → 1 ≤ fewTs (deep + 1) n r ∧ fewTs (deep + 1) n r ≤ 1000 := by
          intro r
          induction r with
          | nil => intro n _ h1 h2; rw [fewTs_nil]; omega
          | cons k r ih =>
            intro n hk h1 h2
            have := fewT_bd m k (deep + 1) (hk k (by simp))
            rw [fewTs_cons]
            split
            · omega
            · rename_i h3
              simp only [decide_eq_true_eq] at h3
              exact ih _ (fun x hx => hk x (by simp [hx])) (by omega) (by omega)
        exact key t.kids _ (fun k hk => by have := Ty.size_kid hk; omega) (by omega) (by omega)
theorem law13_names_loop (t : Ty) (deep : Nat) (hn : t.names.length ≤ 300) {K : List Kf} : ∀ (r : List Tx) (i : Nat), t.names.drop i = r → i ≤ t.names.length →
    go X_ag (.c (.loop ap0) :: .b 0 :: K) ⟨[(1, .d (.int .i64 ((deep : Int)))), (2, .ref 0 2 0), (5, .d (.int .i64 (1))), (6, .d (.int .i64 ((i : Int))))], boxT 2 t⟩ =
      if ep r then some (.d (.int .i64 (1000)), []) else go X_ag K ⟨[(1, .d (.int .i64 ((deep : Int)))), (2, .ref 0 2 0), (5, .d (.int .i64 (1))), (6, .d (.int .i64 ((t.names.length : Int)))), (26, .d (.bool (false)))], boxT 2 t⟩
  | [], i, hr, hi => by
    have := dp hr
    have : i = t.names.length := by omega
    subst this
    have d_a : decide ((t.names.length : Int) < t.names.length) = false := by simp <;> omega
    rw [go_loop, if_neg (by simp [ep])]
    simp (disch := first | omega | (simp only [go_sem, List.length_take, List.length_drop] <;> omega) | assumption | decide | fail) only [go_sem, X_ag, d_a, boxT, Nat.reduceLeDiff, Nat.reduceLT, Nat.reduceAdd, Int.reduceAdd, Int.reduceSub, Int.reduceNeg, ↓reduceIte, Nat.reduceEqDiff, reduceCtorEq, Int.reduceBEq, Int.reduceBNe, Nat.reduceBEq]
  | s :: r, i, hr, hi => by
    obtain ⟨hlt, hc, hr'⟩ := e9 hr
    have d_a : decide ((i : Int) < t.names.length) = true := by simp <;> omega
    have e1 : (i : Int) + 1 = ((i + 1 : Nat) : Int) := by omega
    have e2 : ep (s :: r) = (decide ((s.length : Int) > 200) || ep r) := rfl
    rw [go_loop, e2]
    rcases Bool.eq_false_or_eq_true (decide ((s.length : Int) > 200)) with d_x | d_x <;> have p_x := d_x <;> simp only [decide_eq_true_eq, decide_eq_false_iff_not, beq_iff_eq, beq_eq_false_iff_ne, ne_eq] at p_x 
    · rw [if_pos (by rw [d_x]; rfl)]
      simp (disch := first | omega | (simp only [go_sem, List.length_take, List.length_drop] <;> omega) | assumption | decide | fail) only [go_sem, X_ag, d_a, hc, boxT, d_x, Nat.reduceLeDiff, Nat.reduceLT, Nat.reduceAdd, Int.reduceAdd, Int.reduceSub, Int.reduceNeg, ↓reduceIte, Nat.reduceEqDiff, reduceCtorEq, Int.reduceBEq, Int.reduceBNe, Nat.reduceBEq]
    · have ih := law13_names_loop t deep hn (K := K) r (i + 1) hr' (by omega)
      rw [d_x, Bool.false_or, ← ih]
      simp (disch := first | omega | (simp only [go_sem, List.length_take, List.length_drop] <;> omega) | assumption | decide | fail) only [go_sem, X_ag, d_a, hc, boxT, d_x, e1, Nat.reduceLeDiff, Nat.reduceLT, Nat.reduceAdd, Int.reduceAdd, Int.reduceSub, Int.reduceNeg, ↓reduceIte, Nat.reduceEqDiff, reduceCtorEq, Int.reduceBEq, Int.reduceBNe, Nat.reduceBEq]
theorem law13_few_loop (t : Ty) (deep : Nat) (hd : deep ≤ 20) (hk : t.kids.length ≤ 300) (IH : ∀ k ∈ t.kids, evL cfg n_ag 0 [.d k.d, .d (.int .i64 (((deep + 1 : Nat) : Int)))] [] = some (.d (.int .i64 (fewT (deep + 1) k)), [])) : ∀ (r : List Ty) (i : Nat) (n : Int), t.kids.drop i = r → i ≤ t.kids.length → 1 ≤ n → n ≤ 1000 →
    go X_ag [.c (.loop aax), .b 2, .c (.seq yn .ret)] ⟨[(1, .d (.int .i64 ((deep : Int)))), (2, .ref 0 2 0), (5, .d (.int .i64 (n))), (7, .d (.int .i64 ((i : Int))))], boxT 2 t⟩ = some (.d (.int .i64 (fewTs (deep + 1) n r)), [])
  | [], i, n, hr, hi, h1, h2 => by
    have := dp hr
    have : i = t.kids.length := by omega
    subst this
    have d_a : decide ((t.kids.length : Int) < t.kids.length) = false := by simp <;> omega
    rw [go_loop, fewTs_nil]
    simp (disch := first | omega | (simp only [go_sem, List.length_take, List.length_drop] <;> omega) | assumption | decide | fail) only [go_sem, X_ag, d_a, boxT, Nat.reduceLeDiff, Nat.reduceLT, Nat.reduceAdd, Int.reduceAdd, Int.reduceSub, Int.reduceNeg, ↓reduceIte, Nat.reduceEqDiff, reduceCtorEq, Int.reduceBEq, Int.reduceBNe, Nat.reduceBEq]
  | k :: r, i, n, hr, hi, h1, h2 => by
    obtain ⟨hlt, hc, hr'⟩ := e9 hr
    have hb := fewT_bd _ k (deep + 1) (Nat.le_refl _)
    have hf := IH k (List.mem_of_getElem? hc)
    have d_a : decide ((i : Int) < t.kids.length) = true := by simp <;> omega
    have e1 : (i : Int) + 1 = ((i + 1 : Nat) : Int) := by omega
    have e2 : (deep : Int) + 1 = ((deep + 1 : Nat) : Int) := by omega
    rw [go_loop, fewTs_cons]
    generalize fewT (deep + 1) k = q at *
    rcases Bool.eq_false_or_eq_true (decide (n + q > 1000)) with d_x | d_x <;> have p_x := d_x <;> simp only [decide_eq_true_eq, decide_eq_false_iff_not, beq_iff_eq, beq_eq_false_iff_ne, ne_eq] at p_x 
    · simp (disch := first | omega | (simp only [go_sem, List.length_take, List.length_drop] <;> omega) | assumption | decide | fail) only [go_sem, X_ag, d_a, hc, e2, hf, boxT, d_x, Nat.reduceLeDiff, Nat.reduceLT, Nat.reduceAdd, Int.reduceAdd, Int.reduceSub, Int.reduceNeg, ↓reduceIte, Nat.reduceEqDiff, reduceCtorEq, Int.reduceBEq, Int.reduceBNe, Nat.reduceBEq]
    · have ih := law13_few_loop t deep hd hk IH r (i + 1) (n + q) hr' (by omega) (by omega) (by omega)
      simp only [boxT] at ih
      simp (disch := first | omega | (simp only [go_sem, List.length_take, List.length_drop] <;> omega) | assumption | decide | fail) only [go_sem, X_ag, d_a, hc, e2, hf, boxT, d_x, e1, ih, Nat.reduceLeDiff, Nat.reduceLT, Nat.reduceAdd, Int.reduceAdd, Int.reduceSub, Int.reduceNeg, ↓reduceIte, Nat.reduceEqDiff, reduceCtorEq, Int.reduceBEq, Int.reduceBNe, Nat.reduceBEq]
theorem law13_few_ans : ∀ (m : Nat) (t : Ty) (deep : Nat), t.size ≤ m → deep ≤ 21 → evL cfg n_ag 0 [.d t.d, .d (.int .i64 ((deep : Int)))] [] = some (.d (.int .i64 (fewT deep t)), [])
  | 0, t, deep, h, _ => by have := t.size_pos; omega
  | m + 1, t, deep, h, hd => by
    rw [o_ag, fewT_eq]
    rcases Bool.eq_false_or_eq_true (decide ((deep : Int) > 20)) with d_a | d_a <;> have p_a := d_a <;> simp only [decide_eq_true_eq, decide_eq_false_iff_not, beq_iff_eq, beq_eq_false_iff_ne, ne_eq] at p_a 
    · simp (disch := first | omega | (simp only [go_sem, List.length_take, List.length_drop] <;> omega) | assumption | decide | fail) only [go_sem, X_ag, c_ag, d_a, Nat.reduceLeDiff, Nat.reduceLT, Nat.reduceAdd, Int.reduceAdd, Int.reduceSub, Int.reduceNeg, ↓reduceIte, Nat.reduceEqDiff, reduceCtorEq, Int.reduceBEq, Int.reduceBNe, Nat.reduceBEq]
    · rcases Bool.eq_false_or_eq_true (decide ((t.kids.length : Int) > 300)) with d_b | d_b <;> have p_b := d_b <;> simp only [decide_eq_true_eq, decide_eq_false_iff_not, beq_iff_eq, beq_eq_false_iff_ne, ne_eq] at p_b 
      · simp (disch := first | omega | (simp only [go_sem, List.length_take, List.length_drop] <;> omega) | assumption | decide | fail) only [go_sem, X_ag, c_ag, d_a, d_b, Nat.reduceLeDiff, Nat.reduceLT, Nat.reduceAdd, Int.reduceAdd, Int.reduceSub, Int.reduceNeg, ↓reduceIte, Nat.reduceEqDiff, reduceCtorEq, Int.reduceBEq, Int.reduceBNe, Nat.reduceBEq]
      · rcases Bool.eq_false_or_eq_true (decide ((t.names.length : Int) > 300)) with d_c | d_c <;> have p_c := d_c <;> simp only [decide_eq_true_eq, decide_eq_false_iff_not, beq_iff_eq, beq_eq_false_iff_ne, ne_eq] at p_c 
        · simp (disch := first | omega | (simp only [go_sem, List.length_take, List.length_drop] <;> omega) | assumption | decide | fail) only [go_sem, X_ag, c_ag, d_a, d_b, d_c, Nat.reduceLeDiff, Nat.reduceLT, Nat.reduceAdd, Int.reduceAdd, Int.reduceSub, Int.reduceNeg, ↓reduceIte, Nat.reduceEqDiff, reduceCtorEq, Int.reduceBEq, Int.reduceBNe, Nat.reduceBEq]
        · have IH : ∀ k ∈ t.kids, evL cfg n_ag 0 [.d k.d, .d (.int .i64 (((deep + 1 : Nat) : Int)))] [] = some (.d (.int .i64 (fewT (deep + 1) k)), []) := fun k hk => law13_few_ans m k (deep + 1) (by have := Ty.size_kid hk; omega) (by omega)
          have hn := fun K => law13_names_loop t deep (by omega) (K := K) t.names 0 rfl (Nat.zero_le _)
          have hl := law13_few_loop t deep (by omega) (by omega) IH t.kids 0 1 rfl (Nat.zero_le _) (by omega) (by omega)
          simp only [boxT, nc0] at hl hn
          cases hx : ep t.names with
          | true =>
            simp only [hx, if_true] at hn
            simp (disch := first | omega | (simp only [go_sem, List.length_take, List.length_drop] <;> omega) | assumption | decide | fail) only [go_sem, X_ag, c_ag, d_a, d_b, d_c, hn, Nat.reduceLeDiff, Nat.reduceLT, Nat.reduceAdd, Int.reduceAdd, Int.reduceSub, Int.reduceNeg, ↓reduceIte, Nat.reduceEqDiff, reduceCtorEq, Int.reduceBEq, Int.reduceBNe, Nat.reduceBEq]
          | false =>
            simp only [hx, Bool.false_eq_true, if_false] at hn
            simp (disch := first | omega | (simp only [go_sem, List.length_take, List.length_drop] <;> omega) | assumption | decide | fail) only [go_sem, X_ag, c_ag, d_a, d_b, d_c, hn, hl, Nat.reduceLeDiff, Nat.reduceLT, Nat.reduceAdd, Int.reduceAdd, Int.reduceSub, Int.reduceNeg, ↓reduceIte, Nat.reduceEqDiff, reduceCtorEq, Int.reduceBEq, Int.reduceBNe, Nat.reduceBEq]
def fewTB (t : Ty) : Bool := decide (fewT 1 t ≤ 150)
theorem law13_Few_ans (t : Ty) : evL cfg n_bh 0 [.d t.d] [] = some (.d (.bool (fewTB t)), []) := by
  have h1 := law13_few_ans _ t 1 (Nat.le_refl _) (by omega)
  rw [show ((1 : Nat) : Int) = 1 from rfl] at h1
  rw [o_bh]
  simp (disch := first | omega | (simp only [go_sem, List.length_take, List.length_drop] <;> omega) | assumption | decide | fail) only [go_sem, X_bh, c_bh, h1, fewTB, Nat.reduceLeDiff, Nat.reduceLT, Nat.reduceAdd, Int.reduceAdd, Int.reduceSub, Int.reduceNeg, ↓reduceIte, Nat.reduceEqDiff, reduceCtorEq, Int.reduceBEq, Int.reduceBNe, Nat.reduceBEq]
end Go.Proofs.YtnabebdceaoiiaaGreatDoor
