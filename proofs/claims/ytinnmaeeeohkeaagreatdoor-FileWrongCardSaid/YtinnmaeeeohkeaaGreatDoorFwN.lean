/- FileWrong, whatever its arguments. Own work. -/
import Derived.Test.YtinnmaeeeohkeaaGreatDoorFwM
namespace Go.Proofs.YtinnmaeeeohkeaaGreatDoor
open Go Go.RowKit Go.Me
set_option linter.unusedVariables false
set_option linter.unusedSimpArgs false
set_option maxRecDepth 100000

/-- nothing is asked of such -/
theorem wrong_easy (n aa v a b c d e f : Int) (h : n < 1 ∨ 50 < n ∨ aa < 0 ∨ n ≤ aa ∨ (-128 ≤ v ∧ v ≤ 127)) (w : World) :
    Calls Tryz.prog 3 #[.int .i64 n, .int .i64 aa, .int .i64 v, .agg #[.int .i64 a, .int .i64 b, .int .i64 c, .int .i64 d, .int .i64 e, .int .i64 f]] w fun e' w' => e' = .returned (.bool true) ∧ Below w.heap.size w w' := by
  have key : ((n < 1) = True) ∨ ((n < 1) = False ∧ (50 < n) = True) ∨ ((n < 1) = False ∧ (50 < n) = False ∧ (aa < 0) = True) ∨ ((n < 1) = False ∧ (50 < n) = False ∧ (aa < 0) = False ∧ (n ≤ aa) = True) ∨ ((n < 1) = False ∧ (50 < n) = False ∧ (aa < 0) = False ∧ (n ≤ aa) = False ∧ (-128 ≤ v) = True ∧ (v ≤ 127) = True) := by
    by_cases h1 : n < 1
    · exact .inl (eq_true h1)
    by_cases h2 : 50 < n
    · exact .inr (.inl ⟨eq_false h1, eq_true h2⟩)
    by_cases h3 : aa < 0
    · exact .inr (.inr (.inl ⟨eq_false h1, eq_false h2, eq_true h3⟩))
    by_cases h4 : n ≤ aa
    · exact .inr (.inr (.inr (.inl ⟨eq_false h1, eq_false h2, eq_false h3, eq_true h4⟩)))
    exact .inr (.inr (.inr (.inr ⟨eq_false h1, eq_false h2, eq_false h3, eq_false h4, eq_true (by omega), eq_true (by omega)⟩)))
  clear h
  go_enter Tryz.func3, Tryz.ntmps3
  rcases key with h1 | ⟨h1, h2⟩ | ⟨h1, h2, h3⟩ | ⟨h1, h2, h3, h4⟩ | ⟨h1, h2, h3, h4, h5, h6⟩
  all_goals (
    go_wp2_with (first
      | (go_at_call 4; go_must (
          refine (known_calls _).mono ?_; rintro e' w1 ⟨rfl, hB⟩
          have B1 : Aside (Below w.heap.size w w1) := ((Below.refl _ w).alloc (Nat.le_refl _) _).trans (hB.mono (by simp))
          clear hB))
      | go_in)
    go_ret
    exact ⟨rfl, B1.out⟩)
theorem wrong_calls (n aa v a b c d e f : Int) (w : World) (hL : Laid cfgE w) (h0 : 0 < w.heap.size) :
    Calls Tryz.prog 3 #[.int .i64 n, .int .i64 aa, .int .i64 v, .agg #[.int .i64 a, .int .i64 b, .int .i64 c, .int .i64 d, .int .i64 e, .int .i64 f]] w fun e' w' => e' = .returned (.bool true) ∧ Below w.heap.size w w' := by
  by_cases h : n < 1 ∨ 50 < n ∨ aa < 0 ∨ n ≤ aa ∨ (-128 ≤ v ∧ v ≤ 127)
  · exact wrong_easy n aa v a b c d e f h w
  · obtain ⟨nn, rfl⟩ : ∃ k : Nat, n = k := ⟨n.toNat, by omega⟩
    obtain ⟨aa, rfl⟩ : ∃ k : Nat, aa = k := ⟨aa.toNat, by omega⟩
    exact wrong_walk nn aa v a b c d e f (by omega) (by omega) (by omega) (by omega) w hL h0
end Go.Proofs.YtinnmaeeeohkeaaGreatDoor
