/- ColumnChecks, walked: the options are held against their ends on both sides alike. Own work. -/
import Derived.Test.YtkdiccgfbfbjlaaGreatProg
import Derived.WalkKit
import Derived.Below
import Derived.KernelRfl
import Derived.Deep.LoopGhost
import Derived.RangeFuncBox
namespace Go.Proofs.YtkdiccgfbfbjlaaGreat
open Go Go.RowKit
set_option linter.unusedVariables false
set_option linter.unusedSimpArgs false
set_option maxRecDepth 100000

/-- what Check tells -/
def fine (b c d e f : Int) : Bool := decide (64 ≤ b ∧ b ≤ 65536 ∧ 1 ≤ c ∧ c ≤ 2 ∧ 0 ≤ d ∧ d ≤ 100 ∧ 1 ≤ e ∧ e ≤ 4096 ∧ 0 ≤ f ∧ f ≤ 4096)
def told (a b c d e f : Int) : Int := if a = 0 ∨ a = 4 then (if fine b c d e f then 0 else 1) else 7

set_option maxHeartbeats 1000000 in
theorem check_calls (a b c d e f : Int) (w : World) : Calls Tryz.prog 15 #[.agg #[.int .i64 a, .int .i64 b, .int .i64 c, .int .i64 d, .int .i64 e, .int .i64 f]] w fun e' w' => e' = .returned (.int .i64 (told a b c d e f)) ∧ Below w.heap.size w w' := by
  go_enter Tryz.func15, Tryz.ntmps15
  go_wp2
  all_goals try go_ret
  all_goals try refine ⟨?_, (Below.refl _ w).alloc (Nat.le_refl _) _⟩
  all_goals (unfold told fine; simp_all)
  all_goals omega

/-- the options lie in a block -/
def Opts (w1 : World) (B : Nat) (a b c d e f : Int) : Prop := w1.cell? ⟨B, 0, none⟩ = some (.int .i64 a) ∧ w1.cell? ⟨B, 1, none⟩ = some (.int .i64 b) ∧ w1.cell? ⟨B, 2, none⟩ = some (.int .i64 c) ∧ w1.cell? ⟨B, 3, none⟩ = some (.int .i64 d) ∧ w1.cell? ⟨B, 4, none⟩ = some (.int .i64 e) ∧ w1.cell? ⟨B, 5, none⟩ = some (.int .i64 f)
theorem opts_of {w1 : World} {B : Nat} {a b c d e f : Int} {t : TypeId} (h : w1.heap[B]? = some (.cells #[.int .i64 a, .int .i64 b, .int .i64 c, .int .i64 d, .int .i64 e, .int .i64 f] t)) : Opts w1 B a b c d e f := by
  unfold Opts World.cell?
  simp [h]
set_option maxHeartbeats 4000000 in
theorem checks_walk (a b c d e f : Int) (w : World) (hk : ∀ w, Calls Tryz.prog 8 #[] w fun e w' => e = .returned (.bool true) ∧ Below w.heap.size w w') :
    Calls Tryz.prog 5 #[.agg #[.int .i64 a, .int .i64 b, .int .i64 c, .int .i64 d, .int .i64 e, .int .i64 f]] w fun e' w' => e' = .returned (.bool true) ∧ Below w.heap.size w w' := by
  go_enter Tryz.func5, Tryz.ntmps5
  go_wp2_with (first | (go_at_call 8; refine (hk _).mono ?_; rintro e' w1 ⟨rfl, hB⟩; obtain ⟨c0, c1, c2, c3, c4, c5⟩ := opts_of ((hB.block w.heap.size (by simp)).trans (World.alloc_heap_new w _))) | (go_at_call 15; refine (check_calls a b c d e f w1).mono ?_; rintro e' w2 ⟨rfl, hB2⟩; obtain ⟨d0, d1, d2, d3, d4, d5⟩ := opts_of (((hB2.block w.heap.size (Nat.lt_of_lt_of_le (by simp) hB.size)).trans (hB.block w.heap.size (by simp))).trans (World.alloc_heap_new w _))))
  all_goals (go_ret; refine ⟨?_, (((Below.refl _ w).alloc (Nat.le_refl _) _).trans (hB.mono (by simp))).trans (hB2.mono (Nat.le_trans (by simp) hB.size))⟩)
  all_goals (simp only [Ending.returned.injEq, Array.getD_eq_getD_getElem?, List.getElem?_toArray, List.getElem?_cons_succ, List.getElem?_cons_zero, Option.getD_some, Value.bool.injEq])
  all_goals (unfold told fine; simp_all)
  all_goals omega
end Go.Proofs.YtkdiccgfbfbjlaaGreat
