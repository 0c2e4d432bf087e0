/- ValueTwo holds of any type and any two values. -/
import Derived.Test.YtnabebdceaoiiaaGreatDoorLawValueOrders
import Derived.Test.YtnabebdceaoiiaaGreatDoorVaI
namespace Go.Proofs.YtnabebdceaoiiaaGreatDoor
open Go Go.Ev
set_option linter.unusedVariables false
set_option linter.unusedSimpArgs false
set_option maxHeartbeats 2000000

theorem refB (a b : Tx) : (if Op.bytesLess a b then (-1 : Int) else if (a == b) then 0 else 1) = cmpB a b := by
  unfold cmpB
  rcases Bool.eq_false_or_eq_true (Op.bytesLess a b) with h | h
  · simp [h]
  · rcases Bool.eq_false_or_eq_true (Op.bytesLess b a) with h' | h'
    · have : a ≠ b := fun e => by rw [e, bl_irr] at h'; cases h'
      simp [h, h', this]
    · have := bl_tri h h'
      subst this
      simp [h]
theorem refI (a c b d : Int) : (if decide (a < b) || (a == b && decide (c < d)) then (-1 : Int) else if decide (a > b) || decide (c > d) then 1 else 0) = cmpO (cmpI a b) (cmpI c d) := by
  unfold cmpO cmpI
  rcases Int.lt_trichotomy a b with h1 | h1 | h1
  · simp [h1]
  · subst h1
    rcases Int.lt_trichotomy c d with h2 | h2 | h2
    · simp [h2]
    · simp [h2]
    · have h3 : ¬ c < d := by omega
      simp [h2, h3]
  · have h3 : ¬ a < b := by omega
    have h4 : a ≠ b := by omega
    simp [h1, h3, h4]
theorem refCmp_eq (t : Ty) (a b : Va) : refCmpM t a b = cmpV t a b := by
  unfold refCmpM cmpV
  rw [refB, refI]
theorem cmpI_neg (a b : Int) : cmpI b a = 0 - cmpI a b := by
  unfold cmpI
  rcases Int.lt_trichotomy a b with h | h | h
  · have h2 : ¬ b < a := by omega
    simp [h, h2]
  · simp [h]
  · have h2 : ¬ a < b := by omega
    simp [h, h2]
theorem cmpO_neg (a b : Int) : cmpO (0 - a) (0 - b) = 0 - cmpO a b := by
  unfold cmpO
  by_cases h : a = 0
  · by_cases h' : b = 0
    · simp [h, h']
    · simp [h, h']
  · simp [h]
theorem cmpB_neg (a b : Tx) : cmpB b a = 0 - cmpB a b := by
  unfold cmpB
  rcases Bool.eq_false_or_eq_true (Op.bytesLess a b) with h | h <;> rcases Bool.eq_false_or_eq_true (Op.bytesLess b a) with h' | h'
  · have := bl_trans h h'
    rw [bl_irr] at this
    cases this
  all_goals simp [h, h']
theorem cmpV_neg (t : Ty) (a b : Va) : cmpV t b a = (0 - (cmpV t a b).1, (cmpV t a b).2) := by
  unfold cmpV
  cases leafK t.kind <;> cases a.null <;> cases b.null <;> cases textK t.kind <;> simp [cmpB_neg a.b b.b, cmpI_neg a.i b.i, cmpI_neg a.n b.n] <;> first | exact cmpB_neg _ _ | (rw [← Int.zero_sub, ← Int.zero_sub, ← Int.zero_sub]; exact cmpO_neg _ _)
theorem cmpV_bd (t : Ty) (a b : Va) : -1 ≤ (cmpV t a b).1 ∧ (cmpV t a b).1 ≤ 1 := by
  unfold cmpV cmpB cmpO cmpI
  repeat' split
  all_goals simp
theorem sameV_mk (n n' : Bool) (i i' m m' : Int) (b b' : Tx) (ks ks' : List Va) : sameV (.mk n i m b ks) (.mk n' i' m' b' ks') = if !(n == n') || i != i' || m != m' || !(b == b') || (ks.length : Int) != (ks'.length : Int) then false else sameVs ks ks' := by
  rw [sameV]; rfl
theorem va_ext {x y : Va} (h1 : x.null = y.null) (h2 : x.i = y.i) (h3 : x.n = y.n) (h4 : x.b = y.b) (h5 : x.kids = y.kids) : x = y := by
  cases x with
  | mk n i m b ks => cases y with
    | mk n' i' m' b' ks' =>
      obtain rfl : n = n' := h1
      obtain rfl : i = i' := h2
      obtain rfl : m = m' := h3
      obtain rfl : b = b' := h4
      obtain rfl : ks = ks' := h5
      rfl
mutual
theorem sameV_iff : ∀ x y : Va, sameV x y = true ↔ x = y
  | .mk n i m b ks, .mk n' i' m' b' ks' => by
    rw [sameV_mk]
    cases hc : (!(n == n') || i != i' || m != m' || !(b == b') || (ks.length : Int) != (ks'.length : Int)) with
    | true =>
      simp only [if_true, Bool.false_eq_true, false_iff]
      intro h
      cases h
      simp at hc
    | false =>
      simp only [Bool.false_eq_true, if_false]
      simp at hc
      obtain ⟨⟨⟨⟨h1, h2⟩, h3⟩, h4⟩, h5⟩ := hc
      have := sameVs_iff ks ks' (by omega)
      subst h1 h2 h3 h4
      rw [this]
      constructor
      · intro h; rw [h]
      · intro h; cases h; rfl
theorem sameVs_iff : ∀ l r : List Va, l.length = r.length → (sameVs l r = true ↔ l = r)
  | [], [], _ => by simp [sameVs_nil]
  | k :: l, x :: r, h => by
    rw [sameVs_cons]
    have h1 := sameV_iff k x
    have h2 := sameVs_iff l r (by simpa using h)
    constructor
    · intro hh
      split at hh
      · cases hh
      · rename_i hq
        simp at hq
        rw [h1.1 hq, h2.1 hh]
    · intro hh
      cases hh
      rw [h1.2 rfl, h2.2 rfl]
      rfl
end
theorem sameV_comm (x y : Va) : sameV x y = sameV y x := by
  rw [Bool.eq_iff_iff, sameV_iff, sameV_iff]
  exact eq_comm
theorem leaf_same (t : Ty) (a b : Va) (ha : rchkV t a = 0) (hb : rchkV t b = 0) (h : (cmpV t a b).2 = true) : ((cmpV t a b).1 == 0) = sameV a b := by
  rw [Bool.eq_iff_iff, sameV_iff, beq_iff_eq]
  have node : ∀ v : Va, rchkV t v = 0 → v.null = false → leafK t.kind = true → v.kids = [] ∧ (textK t.kind = false → v.b = []) ∧ (textK t.kind = true → v.i = 0 ∧ v.n = 0) := by
    intro v hv hn hl
    rw [rchkV_eq] at hv
    have hz : refNodeM t v = 0 := by
      split at hv
      · exact hv
      · rename_i h1; simpa using h1
    unfold refNodeM at hz
    rw [hn, hl] at hz
    simp only [Bool.false_eq_true, if_false] at hz
    split at hz
    · cases hz
    · rename_i h1
      simp only [Bool.or_eq_true, not_or, Bool.and_eq_true, not_and, decide_eq_true_eq, Bool.not_eq_true', Bool.not_eq_false, Bool.not_eq_true, and_true] at h1
      obtain ⟨⟨h2, h3⟩, h4⟩ := h1
      refine ⟨?_, fun ht => ?_, fun ht => ?_⟩
      · cases hk : v.kids with
        | nil => rfl
        | cons c r => rw [hk] at h4; simp at h4
      · cases hk : v.b with
        | nil => rfl
        | cons c r => rw [hk, ht] at h3; simp at h3
      · unfold textK at ht
        simp only [Bool.or_eq_true, beq_iff_eq] at ht
        unfold numsM numberM at h2
        rcases ht with ((hk | hk) | hk) | hk <;> (simp only [hk] at h2; simp at h2; exact ⟨h2.2, h2.1⟩)
  have hL : leafK t.kind = true ∧ a.null = false ∧ b.null = false := by
    unfold cmpV at h
    cases h1 : leafK t.kind <;> cases h2 : a.null <;> cases h3 : b.null <;> simp [h1, h2, h3] at h ⊢
  obtain ⟨hl, hn, hm⟩ := hL
  obtain ⟨a1, a2, a3⟩ := node a ha hn hl
  obtain ⟨b1, b2, b3⟩ := node b hb hm hl
  unfold cmpV
  rw [hl, hn, hm]
  cases ht : textK t.kind with
  | true =>
    obtain ⟨a4, a5⟩ := a3 ht
    obtain ⟨b4, b5⟩ := b3 ht
    constructor
    · intro hz
      have hz : cmpB a.b b.b = 0 := hz
      unfold cmpB at hz
      split at hz
      · cases hz
      · rename_i q1
        split at hz
        · cases hz
        · rename_i q2
          exact va_ext (by rw [hn, hm]) (by rw [a4, b4]) (by rw [a5, b5]) (bl_tri (by simpa using q1) (by simpa using q2)) (by rw [a1, b1])
    · intro e
      subst e
      show cmpB a.b a.b = 0
      unfold cmpB
      simp [bl_irr]
  | false =>
    constructor
    · intro hz
      have hz : cmpO (cmpI a.i b.i) (cmpI a.n b.n) = 0 := hz
      have hi : ∀ x y : Int, cmpI x y = 0 → x = y := by
        intro x y h
        unfold cmpI at h
        rcases Int.lt_trichotomy x y with q | q | q
        · simp [q] at h
        · exact q
        · have : ¬ x < y := by omega
          simp [q, this] at h
      have hb : cmpI a.i b.i = 0 ∧ cmpI a.n b.n = 0 := by
        unfold cmpO at hz
        split at hz
        · rename_i q; rw [hz] at q; simp at q
        · rename_i q
          split at hz
          · rename_i q'; rw [hz] at q'; simp at q'
          · rename_i q'; exact ⟨by simpa using q, by simpa using q'⟩
      exact va_ext (by rw [hn, hm]) (hi _ _ hb.1) (hi _ _ hb.2) (by rw [a2 ht, b2 ht]) (by rw [a1, b1])
    · intro e
      subst e
      show cmpO (cmpI a.i a.i) (cmpI a.n a.n) = 0
      simp [cmpO, cmpI]
theorem rowValueTwo (t : Ty) (a b : Va) (ht : ∀ m, smallT m t) (ha : okV a) (hb : okV b) : evL cfg n_ingotlaw14_ValueTwo 0 [.d t.d, .d a.d, .d b.d] [] = some (.d (.bool (true)), []) := by
  have hr := law14_Right_ans t (ht _)
  have f1 := law14_Few_ans a
  have f2 := law14_Few_ans b
  have c1 := value_Compare_ans t a b
  have c2 := ref14_Compare_ans t a b
  have c3 := value_Compare_ans t b a
  have s1 := value_Same_ans t b ha
  have s2 := ref14_Same_ans b ha
  have s3 := value_Same_ans t a hb
  rw [refCmp_eq] at c2
  rw [cmpV_neg] at c3
  rw [sameV_comm] at s3
  have hbd := cmpV_bd t a b
  have hls := leaf_same t a b
  rw [o_ingotlaw14_ValueTwo]
  cases hR : rightT t with
  | false => simp (disch := first | omega | (simp only [go_sem, List.length_take, List.length_drop] <;> omega) | assumption | decide | fail) only [go_sem, X_ingotlaw14_ValueTwo, c_ingotlaw14_ValueTwo, known_ok, hr, hR, Nat.reduceLeDiff, Nat.reduceLT, Nat.reduceAdd, Int.reduceAdd, Int.reduceSub, Int.reduceNeg, ↓reduceIte, Nat.reduceEqDiff, reduceCtorEq, Int.reduceBEq, Int.reduceBNe, Nat.reduceBEq]
  | true =>
    have k1 := ref14_Check_ans _ a t (Nat.le_refl _) ha (right_good hR _)
    have k2 := ref14_Check_ans _ b t (Nat.le_refl _) hb (right_good hR _)
    generalize rchkV t a = e1 at *
    generalize rchkV t b = e2 at *
    generalize cmpV t a b = x at *
    generalize sameV a b = z at *
    obtain ⟨p, q⟩ := x
    obtain ⟨d1, d2⟩ := hbd
    simp only at d1 d2 hls c1 c2 c3
    have nn : (p != p) = false := by simp
    have nn' : (0 - p != 0 - p) = false := by simp
    have bb : ∀ u : Bool, (u == u) = true := by intro u; simp
    rcases Bool.eq_false_or_eq_true (e1 != 0) with q1 | q1
    · simp (disch := first | omega | (simp only [go_sem, List.length_take, List.length_drop] <;> omega) | assumption | decide | fail) only [go_sem, X_ingotlaw14_ValueTwo, c_ingotlaw14_ValueTwo, known_ok, hr, hR, f1, f2, k1, q1, Nat.reduceLeDiff, Nat.reduceLT, Nat.reduceAdd, Int.reduceAdd, Int.reduceSub, Int.reduceNeg, ↓reduceIte, Nat.reduceEqDiff, reduceCtorEq, Int.reduceBEq, Int.reduceBNe, Nat.reduceBEq]
      repeat' ((try rw [goQ_b]) <;> split <;> rename_i hh <;> (try simp only [Bool.not_eq_true, Bool.not_eq_false, Bool.not_eq_true', Bool.not_eq_false'] at hh) <;> (try simp (disch := first | omega | (simp only [go_sem, List.length_take, List.length_drop] <;> omega) | assumption | decide | fail) only [*, go_sem, known_ok, hr, hR, f1, f2, k1, q1, Nat.reduceLeDiff, Nat.reduceLT, Nat.reduceAdd, Int.reduceAdd, Int.reduceSub, Int.reduceNeg, ↓reduceIte, Nat.reduceEqDiff, reduceCtorEq, Int.reduceBEq, Int.reduceBNe, Nat.reduceBEq]))
    · rcases Bool.eq_false_or_eq_true (e2 != 0) with q2 | q2
      · simp (disch := first | omega | (simp only [go_sem, List.length_take, List.length_drop] <;> omega) | assumption | decide | fail) only [go_sem, X_ingotlaw14_ValueTwo, c_ingotlaw14_ValueTwo, known_ok, hr, hR, f1, f2, k1, k2, q1, q2, Nat.reduceLeDiff, Nat.reduceLT, Nat.reduceAdd, Int.reduceAdd, Int.reduceSub, Int.reduceNeg, ↓reduceIte, Nat.reduceEqDiff, reduceCtorEq, Int.reduceBEq, Int.reduceBNe, Nat.reduceBEq]
        repeat' ((try rw [goQ_b]) <;> split <;> rename_i hh <;> (try simp only [Bool.not_eq_true, Bool.not_eq_false, Bool.not_eq_true', Bool.not_eq_false'] at hh) <;> (try simp (disch := first | omega | (simp only [go_sem, List.length_take, List.length_drop] <;> omega) | assumption | decide | fail) only [*, go_sem, known_ok, hr, hR, f1, f2, k1, k2, q1, q2, Nat.reduceLeDiff, Nat.reduceLT, Nat.reduceAdd, Int.reduceAdd, Int.reduceSub, Int.reduceNeg, ↓reduceIte, Nat.reduceEqDiff, reduceCtorEq, Int.reduceBEq, Int.reduceBNe, Nat.reduceBEq]))
      · cases hq : q with
        | false =>
          rw [hq] at c1 c2 c3
          simp (disch := first | omega | (simp only [go_sem, List.length_take, List.length_drop] <;> omega) | assumption | decide | fail) only [go_sem, X_ingotlaw14_ValueTwo, c_ingotlaw14_ValueTwo, known_ok, hr, hR, f1, f2, k1, k2, q1, q2, c1, c2, c3, s1, s2, s3, nn, nn', bb, Nat.reduceLeDiff, Nat.reduceLT, Nat.reduceAdd, Int.reduceAdd, Int.reduceSub, Int.reduceNeg, ↓reduceIte, Nat.reduceEqDiff, reduceCtorEq, Int.reduceBEq, Int.reduceBNe, Nat.reduceBEq]
          repeat' ((try rw [goQ_b]) <;> split <;> rename_i hh <;> (try simp only [Bool.not_eq_true, Bool.not_eq_false, Bool.not_eq_true', Bool.not_eq_false'] at hh) <;> (try simp (disch := first | omega | (simp only [go_sem, List.length_take, List.length_drop] <;> omega) | assumption | decide | fail) only [*, go_sem, known_ok, hr, hR, f1, f2, k1, k2, q1, q2, c1, c2, c3, s1, s2, s3, nn, nn', bb, Nat.reduceLeDiff, Nat.reduceLT, Nat.reduceAdd, Int.reduceAdd, Int.reduceSub, Int.reduceNeg, ↓reduceIte, Nat.reduceEqDiff, reduceCtorEq, Int.reduceBEq, Int.reduceBNe, Nat.reduceBEq]))
        | true =>
          rw [hq] at c1 c2 c3
          have hx := hls (by simpa using q1) (by simpa using q2) hq
          simp (disch := first | omega | (simp only [go_sem, List.length_take, List.length_drop] <;> omega) | assumption | decide | fail) only [go_sem, X_ingotlaw14_ValueTwo, c_ingotlaw14_ValueTwo, known_ok, hr, hR, f1, f2, k1, k2, q1, q2, c1, c2, c3, s1, s2, s3, nn, nn', bb, hx, Nat.reduceLeDiff, Nat.reduceLT, Nat.reduceAdd, Int.reduceAdd, Int.reduceSub, Int.reduceNeg, ↓reduceIte, Nat.reduceEqDiff, reduceCtorEq, Int.reduceBEq, Int.reduceBNe, Nat.reduceBEq]
          repeat' ((try rw [goQ_b]) <;> split <;> rename_i hh <;> (try simp only [Bool.not_eq_true, Bool.not_eq_false, Bool.not_eq_true', Bool.not_eq_false'] at hh) <;> (try simp (disch := first | omega | (simp only [go_sem, List.length_take, List.length_drop] <;> omega) | assumption | decide | fail) only [*, go_sem, known_ok, hr, hR, f1, f2, k1, k2, q1, q2, c1, c2, c3, s1, s2, s3, nn, nn', bb, hx, Nat.reduceLeDiff, Nat.reduceLT, Nat.reduceAdd, Int.reduceAdd, Int.reduceSub, Int.reduceNeg, ↓reduceIte, Nat.reduceEqDiff, reduceCtorEq, Int.reduceBEq, Int.reduceBNe, Nat.reduceBEq]))
end Go.Proofs.YtnabebdceaoiiaaGreatDoor
