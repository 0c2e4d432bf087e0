/- DictOrders holds of any texts and any turn. -/
import Derived.Test.YtghhloejmikdfaaLawDictJoins
namespace Go.Proofs.Ytghhloejmikdfaa
open Go Go.Ev
set_option linter.unusedVariables false
set_option linter.unusedSimpArgs false
set_option maxHeartbeats 2000000
set_option maxRecDepth 4000

/-- the texts from place i on, turned by t -/
def rotT (l : List Tx) (t : Nat) : Nat → Nat → List Tx
  | 0, _ => []
  | k + 1, i => (match l[(i + t % l.length) % l.length]? with | some x => [x] | none => []) ++ rotT l t k (i + 1)
theorem rot_cons {l : List Tx} {t k i : Nat} {x : Tx} (h : l[(i + t % l.length) % l.length]? = some x) : rotT l t (k + 1) i = x :: rotT l t k (i + 1) := by rw [rotT, h]; rfl
theorem mem_rot {l : List Tx} {t : Nat} {x : Tx} : ∀ (k i : Nat), x ∈ rotT l t k i ↔ ∃ j, i ≤ j ∧ j < i + k ∧ l[(j + t % l.length) % l.length]? = some x
  | 0, i => by simp [rotT]; intro j h1 h2; omega
  | k + 1, i => by
    rw [rotT, List.mem_append, mem_rot k (i + 1)]
    constructor
    · rintro (h | ⟨j, h1, h2, h3⟩)
      · refine ⟨i, Nat.le_refl _, by omega, ?_⟩
        cases e : l[(i + t % l.length) % l.length]? with
        | none => rw [e] at h; cases h
        | some y => rw [e] at h; simp at h; rw [h]
      · exact ⟨j, by omega, by omega, h3⟩
    · rintro ⟨j, h1, h2, h3⟩
      by_cases e : j = i
      · subst e; left; rw [h3]; simp
      · exact .inr ⟨j, by omega, by omega, h3⟩
theorem mod_reach {n t p : Nat} (hn : 0 < n) (hp : p < n) : ∃ j, j < n ∧ (j + t % n) % n = p := by
  have ht := Nat.mod_lt t hn
  by_cases h : t % n ≤ p
  · exact ⟨p - t % n, by omega, by rw [Nat.sub_add_cancel h, Nat.mod_eq_of_lt hp]⟩
  · refine ⟨p + n - t % n, by omega, ?_⟩
    rw [Nat.sub_add_cancel (by omega), Nat.add_mod_right, Nat.mod_eq_of_lt hp]
theorem rot_all {l : List Tx} {t : Nat} (hl : l ≠ []) {x : Tx} : x ∈ rotT l t l.length 0 ↔ x ∈ l := by
  have hn := List.length_pos_iff.2 hl
  rw [mem_rot]
  constructor
  · rintro ⟨j, _, _, h⟩
    exact List.mem_of_getElem? h
  · intro h
    obtain ⟨p, hp, he⟩ := List.mem_iff_getElem.1 h
    obtain ⟨j, h1, h2⟩ := mod_reach (t := t) hn hp
    exact ⟨j, Nat.zero_le _, by omega, by rw [h2, ← he]; exact List.getElem?_eq_getElem hp⟩
theorem rot_length {l : List Tx} (hl : l ≠ []) {t : Nat} : ∀ k i, (rotT l t k i).length = k
  | 0, _ => rfl
  | k + 1, i => by
    have hn := List.length_pos_iff.2 hl
    rw [rot_cons (List.getElem?_eq_getElem (Nat.mod_lt _ hn)), List.length_cons, rot_length hl k (i + 1)]
theorem tmod_nat (a b : Nat) : ((a : Nat) : Int).tmod (b : Int) = ((a % b : Nat) : Int) := rfl
theorem orders_loop {l : List Tx} (hl : l.length ≤ 150) (hne : l ≠ []) {t : Nat} (ht : t < 9223372036854775808) {a : Int} {K : List Kf} : ∀ (k i : Nat) (acc : List Tx), i + k = l.length → acc.length = i →
    go X_ingotlaw17_DictOrders (.c (.loop b_ingotlaw17_DictOrders_10) :: .b 0 :: K) ⟨[(0, .d (.sl ((l).map txt))), (1, .d (.int .i64 ((t : Int)))), (2, .d (.int .i64 (a))), (7, ownL (acc.map txt)), (8, .d (.int .i64 ((i : Int))))], []⟩ =
      go X_ingotlaw17_DictOrders K ⟨[(0, .d (.sl ((l).map txt))), (1, .d (.int .i64 ((t : Int)))), (2, .d (.int .i64 (a))), (7, ownL ((acc ++ rotT l t k i).map txt)), (8, .d (.int .i64 ((l.length : Int)))), (32, .d (.bool (false)))], []⟩
  | 0, i, acc, hi, ha => by
    have : i = l.length := by omega
    subst this
    have d_a : decide ((l.length : Int) < l.length) = false := by simp <;> omega
    rw [go_loop, rotT, List.append_nil]
    cases acc with
    | nil => simp (disch := first | omega | (simp only [go_sem, List.length_take, List.length_drop] <;> omega) | assumption | decide | fail) only [go_sem, X_ingotlaw17_DictOrders, d_a, ownL_nil, Nat.reduceLeDiff, Nat.reduceLT, Nat.reduceAdd, Int.reduceAdd, Int.reduceSub, Int.reduceNeg, ↓reduceIte, Nat.reduceEqDiff, reduceCtorEq]
    | cons a acc => simp (disch := first | omega | (simp only [go_sem, List.length_take, List.length_drop] <;> omega) | assumption | decide | fail) only [go_sem, X_ingotlaw17_DictOrders, d_a, ownL_cons, Nat.reduceLeDiff, Nat.reduceLT, Nat.reduceAdd, Int.reduceAdd, Int.reduceSub, Int.reduceNeg, ↓reduceIte, Nat.reduceEqDiff, reduceCtorEq]
  | k + 1, i, acc, hi, ha => by
    have hn := List.length_pos_iff.2 hne
    have hm := Nat.mod_lt t hn
    have hm2 := Nat.mod_lt (i + t % l.length) hn
    have hc := List.getElem?_eq_getElem hm2
    have d_a : decide ((i : Int) < l.length) = true := by simp <;> omega
    have ih := orders_loop hl hne ht (a := a) (K := K) k (i + 1) (acc ++ [l[(i + t % l.length) % l.length]]) (by omega) (by simp; omega)
    rw [List.append_assoc, List.singleton_append, ← rot_cons hc, List.map_append, List.map_cons, List.map_nil, ownL_snoc, show (((i + 1 : Nat)) : Int) = (i : Int) + 1 by omega] at ih
    have hz : (l.length : Int) ≠ 0 := by omega
    have e1 := tmod_nat t l.length
    have e2 : ((i : Int) + ((t % l.length : Nat) : Int)).tmod (l.length : Int) = (((i + t % l.length) % l.length : Nat) : Int) := by
      rw [← tmod_nat]; rfl
    rw [go_loop, ← ih]
    cases acc with
    | nil => simp (disch := first | omega | (simp only [go_sem, List.length_take, List.length_drop] <;> omega) | assumption | decide | fail) only [go_sem, X_ingotlaw17_DictOrders, d_a, ib_rem _ _ hz, e1, e2, hc, ownL_nil, Nat.reduceLeDiff, Nat.reduceLT, Nat.reduceAdd, Int.reduceAdd, Int.reduceSub, Int.reduceNeg, ↓reduceIte, Nat.reduceEqDiff, reduceCtorEq]
    | cons a acc =>
      rw [List.length_cons] at ha
      simp (disch := first | omega | (simp only [go_sem, List.length_take, List.length_drop] <;> omega) | assumption | decide | fail) only [go_sem, X_ingotlaw17_DictOrders, d_a, ib_rem _ _ hz, e1, e2, hc, ownL_cons, Nat.reduceLeDiff, Nat.reduceLT, Nat.reduceAdd, Int.reduceAdd, Int.reduceSub, Int.reduceNeg, ↓reduceIte, Nat.reduceEqDiff, reduceCtorEq]
theorem idx_get {l ws : List Tx} {i : Nat} {x : Tx} (h : l[i]? = some x) : (idxT l ws)[i]? = some (posT x ws : Int) := by
  unfold idxT
  rw [List.getElem?_map, h]
  rfl
theorem lawDictOrders (l : List Tx) (hl : l.length < 2 ^ 63) (t a : Int) (ht : t < 9223372036854775808) (hA : a < 9223372036854775808) : evL cfg n_ingotlaw17_DictOrders 0 [.d (.sl ((l).map txt)), .d (.int .i64 (t)), .d (.int .i64 (a))] [] = some (.d (.bool (true)), []) := by
  rw [o_ingotlaw17_DictOrders]
  have hf := law17_few_ans l hl
  rcases Bool.eq_false_or_eq_true (fewT l) with h | h
  · by_cases hne : l = []
    · subst hne
      simp only [List.map_nil] at hf ⊢
      simp (disch := first | omega | (simp only [go_sem, List.length_take, List.length_drop] <;> omega) | assumption | decide | fail) only [go_sem, X_ingotlaw17_DictOrders, c_ingotlaw17_DictOrders, known_ok, hf, h, nc0, List.map_nil, show ((0 : Int) == 0) = true from rfl, Nat.reduceLeDiff, Nat.reduceLT, Nat.reduceAdd, Int.reduceAdd, Int.reduceSub, Int.reduceNeg, ↓reduceIte, Nat.reduceEqDiff, reduceCtorEq]
    · have hn := List.length_pos_iff.2 hne
      have d_e : ((l.length : Int) == 0) = false := by simp; exact hne
      rcases Bool.eq_false_or_eq_true (decide (t < 0)) with d_b | d_b <;> have p_b := d_b <;> simp only [decide_eq_true_eq, decide_eq_false_iff_not, beq_iff_eq, beq_eq_false_iff_ne, ne_eq] at p_b 
      · simp (disch := first | omega | (simp only [go_sem, List.length_take, List.length_drop] <;> omega) | assumption | decide | fail) only [go_sem, X_ingotlaw17_DictOrders, c_ingotlaw17_DictOrders, known_ok, hf, h, d_e, d_b, Nat.reduceLeDiff, Nat.reduceLT, Nat.reduceAdd, Int.reduceAdd, Int.reduceSub, Int.reduceNeg, ↓reduceIte, Nat.reduceEqDiff, reduceCtorEq]
      · rcases Bool.eq_false_or_eq_true (decide (a < 0)) with d_c | d_c <;> have p_c := d_c <;> simp only [decide_eq_true_eq, decide_eq_false_iff_not, beq_iff_eq, beq_eq_false_iff_ne, ne_eq] at p_c 
        · simp (disch := first | omega | (simp only [go_sem, List.length_take, List.length_drop] <;> omega) | assumption | decide | fail) only [go_sem, X_ingotlaw17_DictOrders, c_ingotlaw17_DictOrders, known_ok, hf, h, d_e, d_b, d_c, Nat.reduceLeDiff, Nat.reduceLT, Nat.reduceAdd, Int.reduceAdd, Int.reduceSub, Int.reduceNeg, ↓reduceIte, Nat.reduceEqDiff, reduceCtorEq]
        · obtain ⟨t, rfl⟩ : ∃ n : Nat, t = n := ⟨t.toNat, by omega⟩
          obtain ⟨a, rfl⟩ : ∃ n : Nat, a = n := ⟨a.toNat, by omega⟩
          obtain ⟨h1, h2⟩ := fewT_len h
          have hm := Nat.mod_lt t hn
          have hm2 := Nat.mod_lt a hn
          have hct := List.getElem?_eq_getElem hm
          have hca := List.getElem?_eq_getElem hm2
          have hlp := fun K => orders_loop h1 hne (t := t) (by omega) (a := (a : Int)) (K := K) l.length 0 [] (by omega) rfl
          simp only [nc0, List.map_nil, ownL_nil, List.nil_append] at hlp
          have hrl := rot_length hne (t := t) l.length 0
          have hr0 : ∀ k, 0 < k → (rotT l t k 0)[0]? = some l[t % l.length] := fun k hk => by
            cases k with
            | zero => omega
            | succ k =>
              rw [rot_cons (x := l[t % l.length]) (by rw [Nat.zero_add, Nat.mod_mod]; exact hct)]
              rfl
          have hr0 := hr0 _ hn
          have hmem : ∀ z, z ∈ riseT l ↔ z ∈ rotT l t l.length 0 ++ [l[a % l.length]] := fun z => by
            rw [mem_riseT, List.mem_append, rot_all hne, List.mem_singleton]
            constructor
            · exact .inl
            · rintro (h | h)
              · exact h
              · rw [h]; exact List.getElem_mem hm2
          have hR := riseT_unique (rise_riseT l) hmem
          have c1 := dict_Make_ans (l := l) (by omega) (fun x hx => by have := h2 x hx; omega)
          have c2 := dict_Make_ans (l := rotT l t l.length 0 ++ [l[a % l.length]]) (by rw [List.length_append, hrl]; simp; omega) (fun x hx => by have := h2 x (mem_riseT.1 ((hmem x).2 hx)); omega)
          rw [hR] at c2
          have hwl := riseT_length l
          have s1 := law17_Same_ans (a := riseT l) (b := riseT l) (by omega) (by omega)
          have hi1 := idx_get (ws := riseT l) hct
          have hi2 := idx_get (ws := riseT l) hca
          have hm0 : (rotT l t l.length 0 ++ [l[a % l.length]])[0]? = some l[t % l.length] := by
            rw [List.getElem?_append_left (by rw [hrl]; exact hn), hr0]
          have hmn : (rotT l t l.length 0 ++ [l[a % l.length]])[l.length]? = some l[a % l.length] := by
            rw [List.getElem?_append_right (by rw [hrl]; omega), hrl, Nat.sub_self]; rfl
          have hj1 := idx_get (ws := riseT l) hm0
          have hj2 := idx_get (ws := riseT l) hmn
          have hj3 := idxT_length (rotT l t l.length 0 ++ [l[a % l.length]]) (riseT l)
          have hj4 := idxT_length l (riseT l)
          rw [List.length_append, hrl, List.length_singleton] at hj3
          have ho : ownL ((rotT l t l.length 0).map txt) = .own false 1 ((rotT l t l.length 0).map txt) := by
            cases hq : rotT l t l.length 0 with
            | nil => rw [hq] at hrl; simp at hrl; omega
            | cons _ _ => rfl
          rw [ho] at hlp
          have hz : (l.length : Int) ≠ 0 := by omega
          have e1 := tmod_nat t l.length
          have e2 := tmod_nat a l.length
          generalize idxT (rotT l t l.length 0 ++ [l[a % l.length]]) (riseT l) = J at *
          generalize idxT l (riseT l) = I at *
          generalize rotT l t l.length 0 = R at *
          rw [List.map_append, List.map_cons, List.map_nil] at c2
          have hJ : ∃ z J', J = z :: J' := by
            cases J with
            | nil => simp at hj3
            | cons z J' => exact ⟨z, J', rfl⟩
          obtain ⟨z, J', rfl⟩ := hJ
          have hz1 : z = (posT l[t % l.length] (riseT l) : Int) := by simpa using hj1
          have hj5 : (D.int .i64 z :: J'.map (D.int .i64))[l.length]? = some (D.int .i64 (posT l[a % l.length] (riseT l) : Int)) := by
            rw [← List.map_cons, List.getElem?_map, hj2]; rfl
          rw [hz1] at hj5
          rw [hz1, List.map_cons] at c2
          rw [List.length_cons] at hj3
          have d_f : (((J'.length + 1 : Nat) : Int) == (l.length : Int) + 1) = true := by simp; omega
          have d_g : (((I.length : Nat) : Int) == (l.length : Int)) = true := by simp; omega
          simp (disch := first | omega | (simp only [go_sem, List.length_take, List.length_drop] <;> omega) | assumption | decide | fail) only [go_sem, X_ingotlaw17_DictOrders, c_ingotlaw17_DictOrders, known_ok, hf, h, d_e, d_b, d_c, hlp, ib_rem _ _ hz, e1, e2, hca, c1, c2, s1, hi1, hi2, hj5, d_f, d_g, Nat.reduceLeDiff, Nat.reduceLT, Nat.reduceAdd, Int.reduceAdd, Int.reduceSub, Int.reduceNeg, ↓reduceIte, Nat.reduceEqDiff, reduceCtorEq]
  · simp (disch := first | omega | (simp only [go_sem, List.length_take, List.length_drop] <;> omega) | assumption | decide | fail) only [go_sem, X_ingotlaw17_DictOrders, c_ingotlaw17_DictOrders, known_ok, hf, h, Nat.reduceLeDiff, Nat.reduceLT, Nat.reduceAdd, Int.reduceAdd, Int.reduceSub, Int.reduceNeg, ↓reduceIte, Nat.reduceEqDiff, reduceCtorEq]
theorem rowDictOrders (a0 : List Tx) (a1 a2 : Int) (m0 : a0.length ≤ maxLen) (w1 : (Lit.int .i64 a1).wf = true) (w2 : (Lit.int .i64 a2).wf = true) : evL cfg n_ingotlaw17_DictOrders 0 [.d (.sl ((a0).map txt)), .d (.int .i64 (a1)), .d (.int .i64 (a2))] [] = some (.d (.bool (true)), []) := lawDictOrders a0 (len63 m0) a1 a2 (wf64 w1) (wf64 w2)
end Go.Proofs.Ytghhloejmikdfaa
