/- Values: signs of texts; what a node says by itself, more. -/
import Derived.Test.YtnabebdceaoiiaaGreatDoorVaA
namespace Go.Proofs.YtnabebdceaoiiaaGreatDoor
open Go Go.Ev
set_option linter.unusedVariables false
set_option linter.unusedSimpArgs false
set_option maxHeartbeats 1000000

/-- does a byte begin a sign? -/
def signB (c : UInt8) : Bool := shrI .u8 (c.toNat : Int) 6 != 2
def signsN : Tx → Nat
  | [] => 0
  | c :: b => (if signB c then 1 else 0) + signsN b
theorem signsN_le : ∀ b, signsN b ≤ b.length
  | [] => Nat.le_refl _
  | c :: b => by
    have := signsN_le b
    rw [signsN, List.length_cons]
    split <;> omega
theorem value_Signs_loop {b : Tx} (hb : b.length < 2 ^ 63) {K : List Kf} : ∀ (r : Tx) (i n : Nat), b.drop i = r → i ≤ b.length → n ≤ i →
    go X_value_Signs (.c (.loop b_value_Signs_8) :: .b 0 :: K) ⟨[(3, .d (.int .i64 ((n : Int)))), (6, .d (txt b)), (7, .d (.int .i64 ((b.length : Int)))), (8, .d (.int .i64 ((i : Int))))], []⟩ =
      go X_value_Signs K ⟨[(3, .d (.int .i64 (((n + signsN r : Nat) : Int)))), (6, .d (txt b)), (7, .d (.int .i64 ((b.length : Int)))), (8, .d (.int .i64 ((b.length : Int)))), (9, .d (.bool (false)))], []⟩
  | [], i, n, hr, hi, hn => by
    have h1 := dropEnd hr
    have : i = b.length := by omega
    subst this
    have d_a : decide ((b.length : Int) < b.length) = false := by simp <;> omega
    rw [go_loop]
    simp (disch := first | omega | (simp only [go_sem, List.length_take, List.length_drop] <;> omega) | assumption | decide | fail) only [go_sem, X_value_Signs, d_a, signsN, Nat.add_zero, Nat.reduceLeDiff, Nat.reduceLT, Nat.reduceAdd, Int.reduceAdd, Int.reduceSub, Int.reduceNeg, ↓reduceIte, Nat.reduceEqDiff, reduceCtorEq, Int.reduceBEq, Int.reduceBNe, Nat.reduceBEq]
  | c :: r, i, n, hr, hi, hn => by
    obtain ⟨hlt, hc, hr'⟩ := dropAt hr
    have d_a : decide ((i : Int) < b.length) = true := by simp <;> omega
    have e1 : (i : Int) + 1 = ((i + 1 : Nat) : Int) := by omega
    cases hs : signB c with
    | true =>
      have ih := value_Signs_loop hb (K := K) r (i + 1) (n + 1) hr' (by omega) (by omega)
      have e2 : (n : Int) + 1 = ((n + 1 : Nat) : Int) := by omega
      rw [signsN, hs, if_pos rfl, ← Nat.add_assoc, ← ih, go_loop]
      unfold signB at hs
      simp (disch := first | omega | (simp only [go_sem, List.length_take, List.length_drop] <;> omega) | assumption | decide | fail) only [go_sem, X_value_Signs, d_a, hc, ib_shr, hs, byteD, e1, e2, Nat.reduceLeDiff, Nat.reduceLT, Nat.reduceAdd, Int.reduceAdd, Int.reduceSub, Int.reduceNeg, ↓reduceIte, Nat.reduceEqDiff, reduceCtorEq, Int.reduceBEq, Int.reduceBNe, Nat.reduceBEq]
    | false =>
      have ih := value_Signs_loop hb (K := K) r (i + 1) n hr' (by omega) (by omega)
      rw [signsN, hs, if_neg (by simp), Nat.zero_add, ← ih, go_loop]
      unfold signB at hs
      simp (disch := first | omega | (simp only [go_sem, List.length_take, List.length_drop] <;> omega) | assumption | decide | fail) only [go_sem, X_value_Signs, d_a, hc, ib_shr, hs, byteD, e1, Nat.reduceLeDiff, Nat.reduceLT, Nat.reduceAdd, Int.reduceAdd, Int.reduceSub, Int.reduceNeg, ↓reduceIte, Nat.reduceEqDiff, reduceCtorEq, Int.reduceBEq, Int.reduceBNe, Nat.reduceBEq]
theorem value_Signs_ans {b : Tx} (hb : b.length < 2 ^ 63) : evL cfg n_value_Signs 0 [.d (txt b)] [] = some (.d (.int .i64 ((signsN b : Int))), []) := by
  rw [o_value_Signs]
  have hl := fun K => value_Signs_loop hb (K := K) b 0 0 rfl (Nat.zero_le _) (Nat.zero_le _)
  simp only [nc0, Nat.zero_add] at hl
  simp (disch := first | omega | (simp only [go_sem, List.length_take, List.length_drop] <;> omega) | assumption | decide | fail) only [go_sem, X_value_Signs, c_value_Signs, hl, Nat.reduceLeDiff, Nat.reduceLT, Nat.reduceAdd, Int.reduceAdd, Int.reduceSub, Int.reduceNeg, ↓reduceIte, Nat.reduceEqDiff, reduceCtorEq, Int.reduceBEq, Int.reduceBNe, Nat.reduceBEq]
theorem ref14_Signs_loop {b : Tx} (hb : b.length < 2 ^ 63) {K : List Kf} : ∀ (r : Tx) (i n : Nat), b.drop i = r → i ≤ b.length → n ≤ i →
    go X_ingotref14_Signs (.c (.loop b_ingotref14_Signs_7) :: .b 0 :: K) ⟨[(0, .d (txt b)), (3, .d (.int .i64 ((n : Int)))), (4, .d (.int .i64 ((i : Int))))], []⟩ =
      go X_ingotref14_Signs K ⟨[(0, .d (txt b)), (3, .d (.int .i64 (((n + signsN r : Nat) : Int)))), (4, .d (.int .i64 ((b.length : Int)))), (8, .d (.bool (false)))], []⟩
  | [], i, n, hr, hi, hn => by
    have h1 := dropEnd hr
    have : i = b.length := by omega
    subst this
    have d_a : decide ((b.length : Int) < b.length) = false := by simp <;> omega
    rw [go_loop]
    simp (disch := first | omega | (simp only [go_sem, List.length_take, List.length_drop] <;> omega) | assumption | decide | fail) only [go_sem, X_ingotref14_Signs, d_a, signsN, Nat.add_zero, Nat.reduceLeDiff, Nat.reduceLT, Nat.reduceAdd, Int.reduceAdd, Int.reduceSub, Int.reduceNeg, ↓reduceIte, Nat.reduceEqDiff, reduceCtorEq, Int.reduceBEq, Int.reduceBNe, Nat.reduceBEq]
  | c :: r, i, n, hr, hi, hn => by
    obtain ⟨hlt, hc, hr'⟩ := dropAt hr
    have d_a : decide ((i : Int) < b.length) = true := by simp <;> omega
    have e1 : (i : Int) + 1 = ((i + 1 : Nat) : Int) := by omega
    cases hs : signB c with
    | true =>
      have ih := ref14_Signs_loop hb (K := K) r (i + 1) (n + 1) hr' (by omega) (by omega)
      have e2 : (n : Int) + 1 = ((n + 1 : Nat) : Int) := by omega
      rw [signsN, hs, if_pos rfl, ← Nat.add_assoc, ← ih, go_loop]
      unfold signB at hs
      simp (disch := first | omega | (simp only [go_sem, List.length_take, List.length_drop] <;> omega) | assumption | decide | fail) only [go_sem, X_ingotref14_Signs, d_a, hc, ib_shr, hs, byteD, e1, e2, Nat.reduceLeDiff, Nat.reduceLT, Nat.reduceAdd, Int.reduceAdd, Int.reduceSub, Int.reduceNeg, ↓reduceIte, Nat.reduceEqDiff, reduceCtorEq, Int.reduceBEq, Int.reduceBNe, Nat.reduceBEq]
    | false =>
      have ih := ref14_Signs_loop hb (K := K) r (i + 1) n hr' (by omega) (by omega)
      rw [signsN, hs, if_neg (by simp), Nat.zero_add, ← ih, go_loop]
      unfold signB at hs
      simp (disch := first | omega | (simp only [go_sem, List.length_take, List.length_drop] <;> omega) | assumption | decide | fail) only [go_sem, X_ingotref14_Signs, d_a, hc, ib_shr, hs, byteD, e1, Nat.reduceLeDiff, Nat.reduceLT, Nat.reduceAdd, Int.reduceAdd, Int.reduceSub, Int.reduceNeg, ↓reduceIte, Nat.reduceEqDiff, reduceCtorEq, Int.reduceBEq, Int.reduceBNe, Nat.reduceBEq]
theorem ref14_Signs_ans {b : Tx} (hb : b.length < 2 ^ 63) : evL cfg n_ingotref14_Signs 0 [.d (txt b)] [] = some (.d (.int .i64 ((signsN b : Int))), []) := by
  rw [o_ingotref14_Signs]
  have hl := fun K => ref14_Signs_loop hb (K := K) b 0 0 rfl (Nat.zero_le _) (Nat.zero_le _)
  simp only [nc0, Nat.zero_add] at hl
  simp (disch := first | omega | (simp only [go_sem, List.length_take, List.length_drop] <;> omega) | assumption | decide | fail) only [go_sem, X_ingotref14_Signs, c_ingotref14_Signs, hl, Nat.reduceLeDiff, Nat.reduceLT, Nat.reduceAdd, Int.reduceAdd, Int.reduceSub, Int.reduceNeg, ↓reduceIte, Nat.reduceEqDiff, reduceCtorEq, Int.reduceBEq, Int.reduceBNe, Nat.reduceBEq]
/-- are there too many bytes? -/
def longM (t : Ty) (b : Tx) : Bool :=
  if t.kind == 16 || t.kind == 17 then decide ((signsN b : Int) > t.len) || decide ((b.length : Int) > 4096)
  else if t.kind == 7 || t.kind == 8 then decide ((b.length : Int) > 4096)
  else false
theorem value_long_ans (t : Ty) (v : Va) (hb : v.b.length < 2 ^ 63) : evL cfg n_value_long 0 [.d t.d, .d v.d] [] = some (.d (.bool (longM t v.b)), []) := by
  rw [o_value_long]
  simp (disch := first | omega | (simp only [go_sem, List.length_take, List.length_drop] <;> omega) | assumption | decide | fail) only [go_sem, X_value_long, c_value_long, value_Signs_ans hb, longM, Nat.reduceLeDiff, Nat.reduceLT, Nat.reduceAdd, Int.reduceAdd, Int.reduceSub, Int.reduceNeg, ↓reduceIte, Nat.reduceEqDiff, reduceCtorEq, Int.reduceBEq, Int.reduceBNe, Nat.reduceBEq]
  repeat' ((try rw [goQ_b]) <;> split <;> rename_i hh <;> (try simp only [Bool.not_eq_true, Bool.not_eq_false, Bool.not_eq_true', Bool.not_eq_false'] at hh) <;> (try simp (disch := first | omega | (simp only [go_sem, List.length_take, List.length_drop] <;> omega) | assumption | decide | fail) only [hh, go_sem, value_Signs_ans hb, longM, Nat.reduceLeDiff, Nat.reduceLT, Nat.reduceAdd, Int.reduceAdd, Int.reduceSub, Int.reduceNeg, ↓reduceIte, Nat.reduceEqDiff, reduceCtorEq, Int.reduceBEq, Int.reduceBNe, Nat.reduceBEq]))
/-- are there as many kids as there may be? -/
def countM (t : Ty) (n : Int) : Int :=
  if t.kind == 11 then (if n.tmod 2 == 0 then (if decide (n.tdiv 2 > 16384) then 4 else 0) else 1)
  else if t.kind == 10 then (if decide (n > 16384) then 4 else 0)
  else if t.kind == 12 then (if n == t.kids.length then 0 else 1)
  else if t.kind == 13 then (if n == 1 then 0 else 1)
  else 0
theorem value_count_ans (t : Ty) (v : Va) (hk : v.kids.length < 2 ^ 63) : evL cfg n_value_count 0 [.d t.d, .d v.d] [] = some (.d (.int .i64 (countM t v.kids.length)), []) := by
  rw [o_value_count]
  have e1 : IntKind.i64.wrap ((v.kids.length : Int).tdiv 2) = (v.kids.length : Int).tdiv 2 := by
    have : (v.kids.length : Int).tdiv 2 = ((v.kids.length / 2 : Nat) : Int) := rfl
    rw [this, wrap_i64 (by omega) (by omega)]
  simp (disch := first | omega | (simp only [go_sem, List.length_take, List.length_drop] <;> omega) | assumption | decide | fail) only [go_sem, X_value_count, c_value_count, ib_quo, ib_rem, e1, countM, Nat.reduceLeDiff, Nat.reduceLT, Nat.reduceAdd, Int.reduceAdd, Int.reduceSub, Int.reduceNeg, ↓reduceIte, Nat.reduceEqDiff, reduceCtorEq, Int.reduceBEq, Int.reduceBNe, Nat.reduceBEq]
  repeat' ((try rw [goQ_b]) <;> split <;> rename_i hh <;> (try simp only [Bool.not_eq_true, Bool.not_eq_false, Bool.not_eq_true', Bool.not_eq_false'] at hh) <;> (try simp (disch := first | omega | (simp only [go_sem, List.length_take, List.length_drop] <;> omega) | assumption | decide | fail) only [hh, go_sem, ib_quo, ib_rem, e1, countM, Nat.reduceLeDiff, Nat.reduceLT, Nat.reduceAdd, Int.reduceAdd, Int.reduceSub, Int.reduceNeg, ↓reduceIte, Nat.reduceEqDiff, reduceCtorEq, Int.reduceBEq, Int.reduceBNe, Nat.reduceBEq]))
end Go.Proofs.YtnabebdceaoiiaaGreatDoor
