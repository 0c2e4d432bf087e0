/- FileWrong: what value.Check tells of a row of one number. Own work. -/
import Derived.Test.YtinnmaeeeohkeaaGreatDoorProg
import Derived.WalkKit
import Derived.Below
import Derived.KernelRfl
import Derived.Deep.LoopGhost
import Derived.RangeFuncBox
import Derived.Deep.DeepMust
import Derived.Deep.QuietTactic
import Derived.OwnWalk
import Derived.RegionTactic
import Derived.Laws.AppendOwn
import Derived.Laws.OwnMore
import Derived.Deep.RegionHeld3
namespace Go.Proofs.YtinnmaeeeohkeaaGreatDoor
open Go Go.RowKit
set_option linter.unusedVariables false
set_option linter.unusedSimpArgs false
set_option maxRecDepth 100000

/-- the number's type -/
abbrev tyB : Value := .agg #[.int .i64 1, .slice none 0 0, .slice none 0 0, .int .i64 0, .int .i64 0, .int .i64 0]
/-- a row's type; its kids stand at k -/
abbrev tyS (n k : Value) : Value := .agg #[.int .i64 12, n, k, .int .i64 0, .int .i64 0, .int .i64 0]
abbrev vaI (x : Int) : Value := .agg #[.bool false, .int .i64 x, .int .i64 0, .slice none 0 0, .slice none 0 0]
abbrev vaR (k : Value) : Value := .agg #[.bool false, .int .i64 0, .int .i64 0, .slice none 0 0, k]

theorem grown_refl (w : World) (r : Option Nat) : w.grownBy w r := ⟨rfl, rfl, rfl, Nat.le_refl _, fun _ _ _ => rfl⟩
theorem grown_trans {a b c : World} (h : a.grownBy b none) (k : b.grownBy c none) : a.grownBy c none :=
  ⟨k.os.trans h.os, k.tape.trans h.tape, k.output.trans h.output, Nat.le_trans h.size k.size, fun i hi _ => (k.block i (Nat.lt_of_lt_of_le hi h.size) (by simp)).trans (h.block i hi (by simp))⟩
theorem grown_alloc {a b : World} (h : a.grownBy b none) (o : Obj) : a.grownBy (b.alloc o) none := grown_trans h (World.grownBy_alloc _ _ _)
theorem grown_drew {a b : World} (h : a.grownBy b none) : a.grownBy b.drew none := ⟨h.os, h.tape, h.output, h.size, h.block⟩
theorem grown_below {a b : World} (h : a.grownBy b none) : Below a.heap.size a b := ⟨h.os, h.tape, h.output, h.size, fun k hk => h.block k hk (by simp)⟩
theorem grown_set {a w : World} {g o : Nat} {u : Value} (h : a.grownBy w none) (hg : a.heap.size ≤ g) : a.grownBy (w.setCell ⟨g, o, none⟩ u) none :=
  ⟨h.os, h.tape, h.output, by rw [World.size_setCell]; exact h.size, fun b hb _ => (Below.heap_setCell w _ _ _ (by show b ≠ g; omega)).trans (h.block b hb (by simp))⟩

theorem text_calls (k : Int) (w : World) : Calls Tryz.prog 91 #[.int .i64 k] w fun e w' => e = .returned (.bool (decide (k = 7 ∨ k = 8 ∨ k = 16 ∨ k = 17))) ∧ w' = w := by
  go_enter Tryz.func91, Tryz.ntmps91
  go_wp2
  all_goals try go_ret
  all_goals simp_all
theorem leaf_calls (k : Int) (w : World) : Calls Tryz.prog 92 #[.int .i64 k] w fun e w' => e = .returned (.bool (!decide (k = 10 ∨ k = 11 ∨ k = 12 ∨ k = 13))) ∧ w' = w := by
  go_enter Tryz.func92, Tryz.ntmps92
  go_wp2
  all_goals try go_ret
  all_goals simp_all
theorem wide_calls (x : Int) (w : World) : Calls Tryz.prog 218 #[.int .i64 x, .int .i64 8] w fun e w' => e = .returned (.bool (decide (-128 ≤ x ∧ x ≤ 127))) ∧ w' = w := by
  go_enter Tryz.func218, Tryz.ntmps218
  go_wp2
  all_goals try go_ret
  all_goals simp_all
  all_goals omega

theorem namedI (x : Int) (w : World) : Calls Tryz.prog 166 #[tyB, vaI x] w fun e w' => e = .returned (.bool true) ∧ w.grownBy w' none := by
  go_enter Tryz.func166, Tryz.ntmps166
  go_wp2_with (first | (go_at_call 92; go_must (refine (leaf_calls _ _).mono ?_; rintro e' w1 ⟨rfl, rfl⟩)) | (go_at_call 91; go_must (refine (text_calls _ _).mono ?_; rintro e' w1 ⟨rfl, rfl⟩)) | (go_at_call 218; go_must (refine (wide_calls _ _).mono ?_; rintro e' w1 ⟨rfl, rfl⟩)) | go_in)
  all_goals go_ret
  all_goals exact ⟨by simp_all, grown_trans (World.grownBy_alloc _ _ _) (World.grownBy_alloc _ _ _)⟩

theorem numberI (x : Int) (w : World) : Calls Tryz.prog 167 #[tyB, vaI x] w fun e w' => e = .returned (.bool (decide (-128 ≤ x ∧ x ≤ 127))) ∧ w.grownBy w' none := by
  go_enter Tryz.func167, Tryz.ntmps167
  go_wp2_with (first | (go_at_call 92; go_must (refine (leaf_calls _ _).mono ?_; rintro e' w1 ⟨rfl, rfl⟩)) | (go_at_call 91; go_must (refine (text_calls _ _).mono ?_; rintro e' w1 ⟨rfl, rfl⟩)) | (go_at_call 218; go_must (refine (wide_calls _ _).mono ?_; rintro e' w1 ⟨rfl, rfl⟩)) | go_in)
  all_goals go_ret
  all_goals exact ⟨by simp_all, grown_trans (World.grownBy_alloc _ _ _) (World.grownBy_alloc _ _ _)⟩

theorem longI (x : Int) (w : World) : Calls Tryz.prog 168 #[tyB, vaI x] w fun e w' => e = .returned (.bool false) ∧ w.grownBy w' none := by
  go_enter Tryz.func168, Tryz.ntmps168
  go_wp2_with (first | (go_at_call 92; go_must (refine (leaf_calls _ _).mono ?_; rintro e' w1 ⟨rfl, rfl⟩)) | (go_at_call 91; go_must (refine (text_calls _ _).mono ?_; rintro e' w1 ⟨rfl, rfl⟩)) | (go_at_call 218; go_must (refine (wide_calls _ _).mono ?_; rintro e' w1 ⟨rfl, rfl⟩)) | go_in)
  all_goals go_ret
  all_goals exact ⟨by simp_all, grown_trans (World.grownBy_alloc _ _ _) (World.grownBy_alloc _ _ _)⟩

theorem countI (x : Int) (w : World) : Calls Tryz.prog 169 #[tyB, vaI x] w fun e w' => e = .returned (.int .i64 0) ∧ w.grownBy w' none := by
  go_enter Tryz.func169, Tryz.ntmps169
  go_wp2_with (first | (go_at_call 92; go_must (refine (leaf_calls _ _).mono ?_; rintro e' w1 ⟨rfl, rfl⟩)) | (go_at_call 91; go_must (refine (text_calls _ _).mono ?_; rintro e' w1 ⟨rfl, rfl⟩)) | (go_at_call 218; go_must (refine (wide_calls _ _).mono ?_; rintro e' w1 ⟨rfl, rfl⟩)) | go_in)
  all_goals go_ret
  all_goals exact ⟨by simp_all, grown_trans (World.grownBy_alloc _ _ _) (World.grownBy_alloc _ _ _)⟩

theorem namedR (n k : Value) (a : Addr) (w : World) : Calls Tryz.prog 166 #[tyS n k, vaR (.slice (some a) 1 1)] w fun e w' => e = .returned (.bool true) ∧ w.grownBy w' none := by
  go_enter Tryz.func166, Tryz.ntmps166
  go_wp2_with (first | (go_at_call 92; go_must (refine (leaf_calls _ _).mono ?_; rintro e' w1 ⟨rfl, rfl⟩)) | (go_at_call 91; go_must (refine (text_calls _ _).mono ?_; rintro e' w1 ⟨rfl, rfl⟩)) | (go_at_call 218; go_must (refine (wide_calls _ _).mono ?_; rintro e' w1 ⟨rfl, rfl⟩)) | go_in)
  all_goals go_ret
  all_goals exact ⟨by simp_all, grown_trans (World.grownBy_alloc _ _ _) (World.grownBy_alloc _ _ _)⟩

theorem numberR (n k : Value) (a : Addr) (w : World) : Calls Tryz.prog 167 #[tyS n k, vaR (.slice (some a) 1 1)] w fun e w' => e = .returned (.bool true) ∧ w.grownBy w' none := by
  go_enter Tryz.func167, Tryz.ntmps167
  go_wp2_with (first | (go_at_call 92; go_must (refine (leaf_calls _ _).mono ?_; rintro e' w1 ⟨rfl, rfl⟩)) | (go_at_call 91; go_must (refine (text_calls _ _).mono ?_; rintro e' w1 ⟨rfl, rfl⟩)) | (go_at_call 218; go_must (refine (wide_calls _ _).mono ?_; rintro e' w1 ⟨rfl, rfl⟩)) | go_in)
  all_goals go_ret
  all_goals exact ⟨by simp_all, grown_trans (World.grownBy_alloc _ _ _) (World.grownBy_alloc _ _ _)⟩

theorem longR (n k : Value) (a : Addr) (w : World) : Calls Tryz.prog 168 #[tyS n k, vaR (.slice (some a) 1 1)] w fun e w' => e = .returned (.bool false) ∧ w.grownBy w' none := by
  go_enter Tryz.func168, Tryz.ntmps168
  go_wp2_with (first | (go_at_call 92; go_must (refine (leaf_calls _ _).mono ?_; rintro e' w1 ⟨rfl, rfl⟩)) | (go_at_call 91; go_must (refine (text_calls _ _).mono ?_; rintro e' w1 ⟨rfl, rfl⟩)) | (go_at_call 218; go_must (refine (wide_calls _ _).mono ?_; rintro e' w1 ⟨rfl, rfl⟩)) | go_in)
  all_goals go_ret
  all_goals exact ⟨by simp_all, grown_trans (World.grownBy_alloc _ _ _) (World.grownBy_alloc _ _ _)⟩

theorem countR (n : Value) (a b : Addr) (w : World) : Calls Tryz.prog 169 #[tyS n (.slice (some b) 1 1), vaR (.slice (some a) 1 1)] w fun e w' => e = .returned (.int .i64 0) ∧ w.grownBy w' none := by
  go_enter Tryz.func169, Tryz.ntmps169
  go_wp2_with (first | (go_at_call 92; go_must (refine (leaf_calls _ _).mono ?_; rintro e' w1 ⟨rfl, rfl⟩)) | (go_at_call 91; go_must (refine (text_calls _ _).mono ?_; rintro e' w1 ⟨rfl, rfl⟩)) | (go_at_call 218; go_must (refine (wide_calls _ _).mono ?_; rintro e' w1 ⟨rfl, rfl⟩)) | go_in)
  all_goals go_ret
  all_goals exact ⟨by simp_all, grown_trans (World.grownBy_alloc _ _ _) (World.grownBy_alloc _ _ _)⟩
end Go.Proofs.YtinnmaeeeohkeaaGreatDoor
