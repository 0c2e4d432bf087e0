/- Values: signs of texts; what a node says by itself, more. -/
import Derived.Test.YtnabebdceaoiiaaGreatDoorVaA
namespace Go.Proofs.YtnabebdceaoiiaaGreatDoor
open Go Go.Ev
set_option linter.unusedVariables false
set_option linter.unusedSimpArgs false
set_option maxHeartbeats 1000000

/-- does a byte begin a sign? -/
def signB (c : UInt8) : Bool := shrI .u8 (c.toNat : Int) 6 != 2
def kx : Tx → Nat
  | [] => 0
  | c :: b => (if signB c then 1 else 0) + kx b
theorem cw {b : Tx} (hb : b.length < 2 ^ 63) {K : List Kf} : ∀ (r : Tx) (i n : Nat), b.drop i = r → i ≤ b.length → n ≤ i →
    go X_ao (.c (.loop apv) :: .b 0 :: K) ⟨[(0, .d (txt b)), (3, .d (.int .i64 ((n : Int)))), (4, .d (.int .i64 ((i : Int))))], []⟩ =
      go X_ao K ⟨[(0, .d (txt b)), (3, .d (.int .i64 (((n + kx r : Nat) : Int)))), (4, .d (.int .i64 ((b.length : Int)))), (8, .d (.bool (false)))], []⟩
  | [], i, n, hr, hi, hn => by
    have h1 := dp hr
    have : i = b.length := by omega
    subst this
    have d_a : decide ((b.length : Int) < b.length) = false := by simp <;> omega
    rw [go_loop]
    simp (disch := first | omega | (simp only [go_sem, List.length_take, List.length_drop] <;> omega) | assumption | decide | fail) only [go_sem, X_ao, d_a, kx, Nat.add_zero, Nat.reduceLeDiff, Nat.reduceLT, Nat.reduceAdd, Int.reduceAdd, Int.reduceSub, Int.reduceNeg, ↓reduceIte, Nat.reduceEqDiff, reduceCtorEq, Int.reduceBEq, Int.reduceBNe, Nat.reduceBEq]
  | c :: r, i, n, hr, hi, hn => by
    obtain ⟨hlt, hc, hr'⟩ := e9 hr
    have d_a : decide ((i : Int) < b.length) = true := by simp <;> omega
    have e1 : (i : Int) + 1 = ((i + 1 : Nat) : Int) := by omega
    cases hs : signB c with
    | true =>
      have ih := cw hb (K := K) r (i + 1) (n + 1) hr' (by omega) (by omega)
      have e2 : (n : Int) + 1 = ((n + 1 : Nat) : Int) := by omega
      rw [kx, hs, if_pos rfl, ← Nat.add_assoc, ← ih, go_loop]
      unfold signB at hs
      simp (disch := first | omega | (simp only [go_sem, List.length_take, List.length_drop] <;> omega) | assumption | decide | fail) only [go_sem, X_ao, d_a, hc, ib_shr, hs, byteD, e1, e2, Nat.reduceLeDiff, Nat.reduceLT, Nat.reduceAdd, Int.reduceAdd, Int.reduceSub, Int.reduceNeg, ↓reduceIte, Nat.reduceEqDiff, reduceCtorEq, Int.reduceBEq, Int.reduceBNe, Nat.reduceBEq]
    | false =>
      have ih := cw hb (K := K) r (i + 1) n hr' (by omega) (by omega)
      rw [kx, hs, if_neg (by simp), Nat.zero_add, ← ih, go_loop]
      unfold signB at hs
      simp (disch := first | omega | (simp only [go_sem, List.length_take, List.length_drop] <;> omega) | assumption | decide | fail) only [go_sem, X_ao, d_a, hc, ib_shr, hs, byteD, e1, Nat.reduceLeDiff, Nat.reduceLT, Nat.reduceAdd, Int.reduceAdd, Int.reduceSub, Int.reduceNeg, ↓reduceIte, Nat.reduceEqDiff, reduceCtorEq, Int.reduceBEq, Int.reduceBNe, Nat.reduceBEq]
theorem li {b : Tx} (hb : b.length < 2 ^ 63) : evL cfg n_ao 0 [.d (txt b)] [] = some (.d (.int .i64 ((kx b : Int))), []) := by
  rw [o_ao]
  have hl := fun K => cw hb (K := K) b 0 0 rfl (Nat.zero_le _) (Nat.zero_le _)
  simp only [nc0, Nat.zero_add] at hl
  simp (disch := first | omega | (simp only [go_sem, List.length_take, List.length_drop] <;> omega) | assumption | decide | fail) only [go_sem, X_ao, c_ao, hl, Nat.reduceLeDiff, Nat.reduceLT, Nat.reduceAdd, Int.reduceAdd, Int.reduceSub, Int.reduceNeg, ↓reduceIte, Nat.reduceEqDiff, reduceCtorEq, Int.reduceBEq, Int.reduceBNe, Nat.reduceBEq]
end Go.Proofs.YtnabebdceaoiiaaGreatDoor
