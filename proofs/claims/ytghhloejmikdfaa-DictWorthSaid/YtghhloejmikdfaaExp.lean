/- Numbers told as texts; bytes cut. -/
import Derived.Test.YtghhloejmikdfaaWor
namespace Go.Proofs.Ytghhloejmikdfaa
open Go Go.Ev
set_option linter.unusedVariables false
set_option linter.unusedSimpArgs false
set_option maxHeartbeats 2000000

/-- the texts of numbers -/
def expM (ws : List Tx) : List Int → Option (List Tx)
  | [] => some []
  | i :: r => if i < 0 then none else (ws[i.toNat]?).bind fun x => (expM ws r).map (x :: ·)
def expD (acc : List Tx) : Option (List Tx) → D
  | none => .tup [.sl [], .int .i64 2]
  | some l => .tup [.sl ((acc ++ l).map txt), .int .i64 0]
theorem expD_cons (acc : List Tx) (x : Tx) (o : Option (List Tx)) : expD (acc ++ [x]) o = expD acc (o.map (x :: ·)) := by
  cases o <;> simp [expD]
theorem dict_Expand_loop {ws : List Tx} {ix : List Int} (hw : ws.length ≤ 1000000) (hb : ∀ x ∈ ws, x.length ≤ 1000000) (hx : ix.length ≤ 1000000) : ∀ (r : List Int) (i : Nat) (acc : List Tx), ix.drop i = r → i ≤ ix.length → acc.length = i →
    go X_dict_Expand [.c (.loop b_dict_Expand_9), .b 0, .c (.seq r_dict_Expand_10 .ret)] ⟨[(0, .d (.sl ((ws).map txt))), (6, .own false 1 (acc.map txt)), (12, .d (.sl ((ix).map (D.int .i64)))), (13, .d (.int .i64 ((ix.length : Int)))), (14, .d (.int .i64 ((i : Int))))], []⟩ = some (.d (expD acc (expM ws r)), [])
  | [], i, acc, hr, hi, ha => by
    have h1 := dropEnd hr
    have d_a : decide ((i : Int) < ix.length) = false := by simp <;> omega
    rw [go_loop]
    simp (disch := first | omega | (simp only [go_sem, List.length_take, List.length_drop] <;> omega) | assumption | decide | fail) only [go_sem, X_dict_Expand, d_a, Nat.reduceLeDiff, Nat.reduceLT, Nat.reduceAdd, Int.reduceAdd, Int.reduceSub, Int.reduceNeg, ↓reduceIte, Nat.reduceEqDiff, reduceCtorEq]
    simp [expD, expM]
  | v :: r, i, acc, hr, hi, ha => by
    obtain ⟨hlt, hc, hr'⟩ := dropAt hr
    have d_a : decide ((i : Int) < ix.length) = true := by simp <;> omega
    rw [go_loop]
    rw [expM]
    rcases Bool.eq_false_or_eq_true (decide (v < 0)) with d_b | d_b <;> have p_b := d_b <;> simp only [decide_eq_true_eq, decide_eq_false_iff_not, beq_iff_eq, beq_eq_false_iff_ne, ne_eq] at p_b 
    · rw [if_pos p_b]
      simp (disch := first | omega | (simp only [go_sem, List.length_take, List.length_drop] <;> omega) | assumption | decide | fail) only [go_sem, X_dict_Expand, d_a, d_b, hc, Nat.reduceLeDiff, Nat.reduceLT, Nat.reduceAdd, Int.reduceAdd, Int.reduceSub, Int.reduceNeg, ↓reduceIte, Nat.reduceEqDiff, reduceCtorEq]
      rfl
    · rw [if_neg p_b]
      rcases Bool.eq_false_or_eq_true (decide (v ≥ (ws.length : Int))) with d_c | d_c <;> have p_c := d_c <;> simp only [decide_eq_true_eq, decide_eq_false_iff_not, beq_iff_eq, beq_eq_false_iff_ne, ne_eq] at p_c 
      · rw [List.getElem?_eq_none (by omega)]
        simp (disch := first | omega | (simp only [go_sem, List.length_take, List.length_drop] <;> omega) | assumption | decide | fail) only [go_sem, X_dict_Expand, d_a, d_b, d_c, hc, Nat.reduceLeDiff, Nat.reduceLT, Nat.reduceAdd, Int.reduceAdd, Int.reduceSub, Int.reduceNeg, ↓reduceIte, Nat.reduceEqDiff, reduceCtorEq]
        rfl
      · obtain ⟨n, rfl⟩ : ∃ n : Nat, v = n := ⟨v.toNat, by omega⟩
        have hn : n < ws.length := by omega
        have hg := List.getElem?_eq_getElem hn
        have hxl := hb _ (List.getElem_mem hn)
        have ih := dict_Expand_loop hw hb hx r (i + 1) (acc ++ [ws[n]]) hr' (by omega) (by simp; omega)
        rw [expD_cons, List.map_append, List.map_cons, List.map_nil, show (((i + 1 : Nat)) : Int) = (i : Int) + 1 by omega] at ih
        rw [Int.toNat_natCast, hg, Option.bind_some, ← ih]
        simp (disch := first | omega | (simp only [go_sem, List.length_take, List.length_drop] <;> omega) | assumption | decide | fail) only [go_sem, X_dict_Expand, d_a, d_b, d_c, hc, hg, clone_ans, landed_ownL, Nat.reduceLeDiff, Nat.reduceLT, Nat.reduceAdd, Int.reduceAdd, Int.reduceSub, Int.reduceNeg, ↓reduceIte, Nat.reduceEqDiff, reduceCtorEq]
        rfl
theorem dict_Expand_ans {ws : List Tx} {ix : List Int} (hw : ws.length ≤ 1000000) (hb : ∀ x ∈ ws, x.length ≤ 1000000) (hx : ix.length ≤ 1000000) : evL cfg n_dict_Expand 0 [.d (.sl ((ws).map txt)), .d (.sl ((ix).map (D.int .i64)))] [] = some (.d (expD [] (expM ws ix)), []) := by
  rw [o_dict_Expand]
  have hl := dict_Expand_loop hw hb hx ix 0 [] rfl (Nat.zero_le _) rfl
  rw [nc0, List.map_nil] at hl
  simp (disch := first | omega | (simp only [go_sem, List.length_take, List.length_drop] <;> omega) | assumption | decide | fail) only [go_sem, X_dict_Expand, c_dict_Expand, Nat.reduceLeDiff, Nat.reduceLT, Nat.reduceAdd, Int.reduceAdd, Int.reduceSub, Int.reduceNeg, ↓reduceIte, Nat.reduceEqDiff, reduceCtorEq]
  exact hl
theorem ref17_Expand_loop {ws : List Tx} {ix : List Int} (hw : ws.length ≤ 1000000) (hx : ix.length ≤ 1000000) : ∀ (r : List Int) (i : Nat) (acc : List Tx), ix.drop i = r → i ≤ ix.length → acc.length = i →
    go X_ingotref17_Expand [.c (.loop b_ingotref17_Expand_8), .b 0, .c (.seq r_ingotref17_Expand_9 .ret)] ⟨[(0, .d (.sl ((ws).map txt))), (1, .d (.sl ((ix).map (D.int .i64)))), (6, ownL (acc.map txt)), (7, .d (.int .i64 ((i : Int))))], []⟩ = some (.d (expD acc (expM ws r)), [])
  | [], i, acc, hr, hi, ha => by
    have h1 := dropEnd hr
    have d_a : decide ((i : Int) < ix.length) = false := by simp <;> omega
    rw [go_loop]
    cases acc with
    | nil => simp (disch := first | omega | (simp only [go_sem, List.length_take, List.length_drop] <;> omega) | assumption | decide | fail) only [go_sem, X_ingotref17_Expand, d_a, ownL_nil, Nat.reduceLeDiff, Nat.reduceLT, Nat.reduceAdd, Int.reduceAdd, Int.reduceSub, Int.reduceNeg, ↓reduceIte, Nat.reduceEqDiff, reduceCtorEq]; rfl
    | cons a acc => simp (disch := first | omega | (simp only [go_sem, List.length_take, List.length_drop] <;> omega) | assumption | decide | fail) only [go_sem, X_ingotref17_Expand, d_a, ownL_cons, Nat.reduceLeDiff, Nat.reduceLT, Nat.reduceAdd, Int.reduceAdd, Int.reduceSub, Int.reduceNeg, ↓reduceIte, Nat.reduceEqDiff, reduceCtorEq]; simp [expD, expM]
  | v :: r, i, acc, hr, hi, ha => by
    obtain ⟨hlt, hc, hr'⟩ := dropAt hr
    have d_a : decide ((i : Int) < ix.length) = true := by simp <;> omega
    rw [go_loop]
    rw [expM]
    rcases Bool.eq_false_or_eq_true (decide (v < 0)) with d_b | d_b <;> have p_b := d_b <;> simp only [decide_eq_true_eq, decide_eq_false_iff_not, beq_iff_eq, beq_eq_false_iff_ne, ne_eq] at p_b 
    · rw [if_pos p_b]
      cases acc with
      | nil => simp (disch := first | omega | (simp only [go_sem, List.length_take, List.length_drop] <;> omega) | assumption | decide | fail) only [go_sem, X_ingotref17_Expand, d_a, d_b, hc, ownL_nil, Nat.reduceLeDiff, Nat.reduceLT, Nat.reduceAdd, Int.reduceAdd, Int.reduceSub, Int.reduceNeg, ↓reduceIte, Nat.reduceEqDiff, reduceCtorEq]; rfl
      | cons a acc => simp (disch := first | omega | (simp only [go_sem, List.length_take, List.length_drop] <;> omega) | assumption | decide | fail) only [go_sem, X_ingotref17_Expand, d_a, d_b, hc, ownL_cons, Nat.reduceLeDiff, Nat.reduceLT, Nat.reduceAdd, Int.reduceAdd, Int.reduceSub, Int.reduceNeg, ↓reduceIte, Nat.reduceEqDiff, reduceCtorEq]; rfl
    · rw [if_neg p_b]
      rcases Bool.eq_false_or_eq_true (decide (v ≥ (ws.length : Int))) with d_c | d_c <;> have p_c := d_c <;> simp only [decide_eq_true_eq, decide_eq_false_iff_not, beq_iff_eq, beq_eq_false_iff_ne, ne_eq] at p_c 
      · rw [List.getElem?_eq_none (by omega)]
        cases acc with
        | nil => simp (disch := first | omega | (simp only [go_sem, List.length_take, List.length_drop] <;> omega) | assumption | decide | fail) only [go_sem, X_ingotref17_Expand, d_a, d_b, d_c, hc, ownL_nil, Nat.reduceLeDiff, Nat.reduceLT, Nat.reduceAdd, Int.reduceAdd, Int.reduceSub, Int.reduceNeg, ↓reduceIte, Nat.reduceEqDiff, reduceCtorEq]; rfl
        | cons a acc => simp (disch := first | omega | (simp only [go_sem, List.length_take, List.length_drop] <;> omega) | assumption | decide | fail) only [go_sem, X_ingotref17_Expand, d_a, d_b, d_c, hc, ownL_cons, Nat.reduceLeDiff, Nat.reduceLT, Nat.reduceAdd, Int.reduceAdd, Int.reduceSub, Int.reduceNeg, ↓reduceIte, Nat.reduceEqDiff, reduceCtorEq]; rfl
      · obtain ⟨n, rfl⟩ : ∃ n : Nat, v = n := ⟨v.toNat, by omega⟩
        have hn : n < ws.length := by omega
        have hg := List.getElem?_eq_getElem hn
        have ih := ref17_Expand_loop hw hx r (i + 1) (acc ++ [ws[n]]) hr' (by omega) (by simp; omega)
        rw [expD_cons, List.map_append, List.map_cons, List.map_nil, ownL_snoc, show (((i + 1 : Nat)) : Int) = (i : Int) + 1 by omega] at ih
        rw [Int.toNat_natCast, hg, Option.bind_some, ← ih]
        cases acc with
        | nil => simp (disch := first | omega | (simp only [go_sem, List.length_take, List.length_drop] <;> omega) | assumption | decide | fail) only [go_sem, X_ingotref17_Expand, d_a, d_b, d_c, hc, hg, ownL_nil, Nat.reduceLeDiff, Nat.reduceLT, Nat.reduceAdd, Int.reduceAdd, Int.reduceSub, Int.reduceNeg, ↓reduceIte, Nat.reduceEqDiff, reduceCtorEq]
        | cons a acc =>
          rw [List.length_cons] at ha
          simp (disch := first | omega | (simp only [go_sem, List.length_take, List.length_drop] <;> omega) | assumption | decide | fail) only [go_sem, X_ingotref17_Expand, d_a, d_b, d_c, hc, hg, ownL_cons, Nat.reduceLeDiff, Nat.reduceLT, Nat.reduceAdd, Int.reduceAdd, Int.reduceSub, Int.reduceNeg, ↓reduceIte, Nat.reduceEqDiff, reduceCtorEq]
theorem ref17_Expand_ans {ws : List Tx} {ix : List Int} (hw : ws.length ≤ 1000000) (hx : ix.length ≤ 1000000) : evL cfg n_ingotref17_Expand 0 [.d (.sl ((ws).map txt)), .d (.sl ((ix).map (D.int .i64)))] [] = some (.d (expD [] (expM ws ix)), []) := by
  rw [o_ingotref17_Expand]
  have hl := ref17_Expand_loop hw hx ix 0 [] rfl (Nat.zero_le _) rfl
  rw [nc0, List.map_nil, ownL_nil] at hl
  simp (disch := first | omega | (simp only [go_sem, List.length_take, List.length_drop] <;> omega) | assumption | decide | fail) only [go_sem, X_ingotref17_Expand, c_ingotref17_Expand, Nat.reduceLeDiff, Nat.reduceLT, Nat.reduceAdd, Int.reduceAdd, Int.reduceSub, Int.reduceNeg, ↓reduceIte, Nat.reduceEqDiff, reduceCtorEq]
  exact hl
end Go.Proofs.Ytghhloejmikdfaa
