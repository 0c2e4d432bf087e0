/- FileWrong: options on both sides, and what file.check tells. Own work. -/
import Derived.Test.YtinnmaeeeohkeaaGreatDoorFwD
namespace Go.Proofs.YtinnmaeeeohkeaaGreatDoor
open Go Go.RowKit Go.Me
set_option linter.unusedVariables false
set_option linter.unusedSimpArgs false
set_option maxRecDepth 100000

/-- what is told of options -/
def fine (b c d e f : Int) : Bool := decide (64 ≤ b ∧ b ≤ 65536 ∧ 1 ≤ c ∧ c ≤ 2 ∧ 0 ≤ d ∧ d ≤ 100 ∧ 1 ≤ e ∧ e ≤ 4096 ∧ 0 ≤ f ∧ f ≤ 4096)
def told (a b c d e f : Int) : Int := if a = 0 ∨ a = 4 then (if fine b c d e f then 0 else 1) else 7
theorem told_or (a b c d e f : Int) : told a b c d e f = 0 ∨ told a b c d e f = 1 ∨ told a b c d e f = 7 := by
  unfold told; split
  · split <;> simp
  · simp
set_option maxHeartbeats 1000000 in
theorem optsP (a b c d e f : Int) (w : World) : Calls Tryz.prog 46 #[.agg #[.int .i64 a, .int .i64 b, .int .i64 c, .int .i64 d, .int .i64 e, .int .i64 f]] w fun e' w' => e' = .returned (.int .i64 (told a b c d e f)) ∧ w.grownBy w' none := by
  go_enter Tryz.func46, Tryz.ntmps46
  go_wp2
  all_goals try go_ret
  all_goals try refine ⟨?_, World.grownBy_alloc _ _ _⟩
  all_goals (unfold told fine; simp_all)
  all_goals omega
set_option maxHeartbeats 1000000 in
theorem optsR (a b c d e f : Int) (w : World) : Calls Tryz.prog 6 #[.agg #[.int .i64 a, .int .i64 b, .int .i64 c, .int .i64 d, .int .i64 e, .int .i64 f]] w fun e' w' => e' = .returned (.int .i64 (told a b c d e f)) ∧ w.grownBy w' none := by
  go_enter Tryz.func6, Tryz.ntmps6
  go_wp2
  all_goals try go_ret
  all_goals try refine ⟨?_, World.grownBy_alloc _ _ _⟩
  all_goals (unfold told fine; simp_all)
  all_goals omega
theorem optsOf (a b c d e f : Int) (w : World) : Calls Tryz.prog 7 #[.agg #[.int .i64 a, .int .i64 b, .int .i64 c, .int .i64 d, .int .i64 e, .int .i64 f]] w fun e' w' => e' = .returned (.agg #[.int .i64 a, .int .i64 b, .int .i64 c, .int .i64 d, .int .i64 e, .int .i64 f]) ∧ w.grownBy w' none := by
  go_enter Tryz.func7, Tryz.ntmps7
  go_wp2
  refine bodyPost_ret (v := .agg #[.int .i64 a, .int .i64 b, .int .i64 c, .int .i64 d, .int .i64 e, .int .i64 f]) (by simp [results, Tryz.results7, go_sem]) rfl ⟨rfl, ?_⟩
  exact grown_alloc (World.grownBy_alloc _ _ _) _
end Go.Proofs.YtinnmaeeeohkeaaGreatDoor
