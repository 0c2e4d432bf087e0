/- DictBytes holds of any bytes, lengths, words and numbers. -/
import Derived.Test.YtghhloejmikdfaaLawDictWorth
namespace Go.Proofs.Ytghhloejmikdfaa
open Go Go.Ev
set_option linter.unusedVariables false
set_option linter.unusedSimpArgs false
set_option maxHeartbeats 2000000

theorem cutM_length : ∀ (r : List Int) (b : Tx), (cutM b r).2.length ≤ r.length
  | [], b => by rw [cutM]; split <;> simp
  | n :: r, b => by
    rw [cutM]
    split
    · simp
    · split
      · simp
      · split
        · simp
        · have := cutM_length r (b.drop n.toNat)
          simp only [List.length_cons]
          omega
theorem expM_length {ws : List Tx} : ∀ (r : List Int) (l : List Tx), expM ws r = some l → l.length = r.length
  | [], l, h => by rw [expM] at h; cases h; rfl
  | i :: r, l, h => by
    rw [expM] at h
    split at h
    · cases h
    · rw [Option.bind_eq_some_iff] at h
      obtain ⟨x, _, h⟩ := h
      rw [Option.map_eq_some_iff] at h
      obtain ⟨q, hq, rfl⟩ := h
      rw [List.length_cons, List.length_cons, expM_length r q hq]
/-- told: two data of a pair -/
theorem cutD_pair (o : Int × List Tx) : ∃ l : List Tx, ∃ e : Int, cutD [] o = .tup [.sl (l.map txt), .int .i64 e] ∧ l.length ≤ o.2.length := by
  unfold cutD
  split
  · exact ⟨o.2, 0, rfl, Nat.le_refl _⟩
  · exact ⟨[], o.1, rfl, Nat.zero_le _⟩
theorem expD_pair (o : Option (List Tx)) (n : Nat) (h : ∀ l, o = some l → l.length = n) : ∃ l : List Tx, ∃ e : Int, expD [] o = .tup [.sl (l.map txt), .int .i64 e] ∧ l.length ≤ n := by
  cases o with
  | none => exact ⟨[], 2, rfl, Nat.zero_le _⟩
  | some l => exact ⟨l, 0, rfl, Nat.le_of_eq (h l rfl)⟩
theorem lawDictBytes (b : Tx) (lens : List Int) (ws : List Tx) (ix : List Int) (hb : b.length < 2 ^ 63) (hn : lens.length < 2 ^ 63) (hl : ws.length < 2 ^ 63) (hx : ix.length < 2 ^ 63) : evL cfg n_ingotlaw17_DictBytes 0 [.d (.sl ((b).map byteD)), .d (.sl ((lens).map (D.int .i64))), .d (.sl ((ws).map txt)), .d (.sl ((ix).map (D.int .i64)))] [] = some (.d (.bool (true)), []) := by
  rw [o_ingotlaw17_DictBytes]
  have hf := law17_few_ans ws hl
  rcases Bool.eq_false_or_eq_true (decide ((b.length : Int) > 6000)) with d_a | d_a <;> have p_a := d_a <;> simp only [decide_eq_true_eq, decide_eq_false_iff_not, beq_iff_eq, beq_eq_false_iff_ne, ne_eq] at p_a 
  · simp (disch := first | omega | (simp only [go_sem, List.length_take, List.length_drop] <;> omega) | assumption | decide | fail) only [go_sem, X_ingotlaw17_DictBytes, c_ingotlaw17_DictBytes, known_ok, hf, d_a, Nat.reduceLeDiff, Nat.reduceLT, Nat.reduceAdd, Int.reduceAdd, Int.reduceSub, Int.reduceNeg, ↓reduceIte, Nat.reduceEqDiff, reduceCtorEq]
  · rcases Bool.eq_false_or_eq_true (decide ((lens.length : Int) > 200)) with d_c | d_c <;> have p_c := d_c <;> simp only [decide_eq_true_eq, decide_eq_false_iff_not, beq_iff_eq, beq_eq_false_iff_ne, ne_eq] at p_c 
    · simp (disch := first | omega | (simp only [go_sem, List.length_take, List.length_drop] <;> omega) | assumption | decide | fail) only [go_sem, X_ingotlaw17_DictBytes, c_ingotlaw17_DictBytes, known_ok, hf, d_a, d_c, Nat.reduceLeDiff, Nat.reduceLT, Nat.reduceAdd, Int.reduceAdd, Int.reduceSub, Int.reduceNeg, ↓reduceIte, Nat.reduceEqDiff, reduceCtorEq]
    · rcases Bool.eq_false_or_eq_true (fewT ws) with h | h
      · rcases Bool.eq_false_or_eq_true (decide ((ix.length : Int) > 200)) with d_d | d_d <;> have p_d := d_d <;> simp only [decide_eq_true_eq, decide_eq_false_iff_not, beq_iff_eq, beq_eq_false_iff_ne, ne_eq] at p_d 
        · simp (disch := first | omega | (simp only [go_sem, List.length_take, List.length_drop] <;> omega) | assumption | decide | fail) only [go_sem, X_ingotlaw17_DictBytes, c_ingotlaw17_DictBytes, known_ok, hf, h, d_a, d_c, d_d, Nat.reduceLeDiff, Nat.reduceLT, Nat.reduceAdd, Int.reduceAdd, Int.reduceSub, Int.reduceNeg, ↓reduceIte, Nat.reduceEqDiff, reduceCtorEq]
        · obtain ⟨h1, h2⟩ := fewT_len h
          have c1 := dict_Cut_ans (b := b) (ix := lens) (by omega) (by omega)
          have c2 := ref17_Cut_ans (b := b) (ix := lens) (by omega) (by omega)
          have c3 := dict_Expand_ans (ws := ws) (ix := ix) (by omega) (fun x hx => by have := h2 x hx; omega) (by omega)
          have c4 := ref17_Expand_ans (ws := ws) (ix := ix) (by omega) (by omega)
          have hcl := cutM_length lens b
          obtain ⟨l1, e1, q1, k1⟩ := cutD_pair (cutM b lens)
          obtain ⟨l2, e2, q2, k2⟩ := expD_pair (expM ws ix) ix.length (fun l hl => expM_length ix l hl)
          rw [q1] at c1 c2
          rw [q2] at c3 c4
          have s1 := law17_Same_ans (a := l1) (b := l1) (by omega) (by omega)
          have s2 := law17_Same_ans (a := l2) (b := l2) (by omega) (by omega)
          simp (disch := first | omega | (simp only [go_sem, List.length_take, List.length_drop] <;> omega) | assumption | decide | fail) only [go_sem, X_ingotlaw17_DictBytes, c_ingotlaw17_DictBytes, known_ok, hf, h, d_a, d_c, d_d, c1, c2, c3, c4, s1, s2, Nat.reduceLeDiff, Nat.reduceLT, Nat.reduceAdd, Int.reduceAdd, Int.reduceSub, Int.reduceNeg, ↓reduceIte, Nat.reduceEqDiff, reduceCtorEq]
      · simp (disch := first | omega | (simp only [go_sem, List.length_take, List.length_drop] <;> omega) | assumption | decide | fail) only [go_sem, X_ingotlaw17_DictBytes, c_ingotlaw17_DictBytes, known_ok, hf, h, d_a, d_c, Nat.reduceLeDiff, Nat.reduceLT, Nat.reduceAdd, Int.reduceAdd, Int.reduceSub, Int.reduceNeg, ↓reduceIte, Nat.reduceEqDiff, reduceCtorEq]
theorem rowDictBytes (a0 : List UInt8) (a1 : List Int) (a2 : List Tx) (a3 : List Int) (m0 : a0.length ≤ maxLen) (m1 : a1.length ≤ maxLen) (m2 : a2.length ≤ maxLen) (m3 : a3.length ≤ maxLen) (w1 : ∀ n ∈ a1, (Lit.int .i64 n).wf = true) (w3 : ∀ n ∈ a3, (Lit.int .i64 n).wf = true) : evL cfg n_ingotlaw17_DictBytes 0 [.d (.sl ((a0).map byteD)), .d (.sl ((a1).map (D.int .i64))), .d (.sl ((a2).map txt)), .d (.sl ((a3).map (D.int .i64)))] [] = some (.d (.bool (true)), []) := lawDictBytes a0 a1 a2 a3 (len63 m0) (len63 m1) (len63 m2) (len63 m3)
end Go.Proofs.Ytghhloejmikdfaa
