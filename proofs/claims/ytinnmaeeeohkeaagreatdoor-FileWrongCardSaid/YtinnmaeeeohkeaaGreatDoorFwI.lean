/- FileWrong: errors that say where, asked: closed runs. Own work. -/
import Derived.Test.YtinnmaeeeohkeaaGreatDoorFwH
namespace Go.Proofs.YtinnmaeeeohkeaaGreatDoor
open Go Go.RowKit Go.Me
set_option linter.unusedVariables false
set_option linter.unusedSimpArgs false
set_option maxRecDepth 100000

def fltM (s : List UInt8) (i : Nat) (g : Nat) : List M := [.str s, .int .i64 (Int.ofNat i), .ifc 46 (.int .i64 (Int.ofNat g))]
def prtM (s : List UInt8) (i : Nat) : List M := [.str s, .int .i64 (Int.ofNat i), .int .i64 0]
noncomputable def tellsB (s : List UInt8) (i g : Nat) : Bool := ranL cfgE 300 8 [.ifc 44 (.ptr 0 0), .sl 1 0 1 (some 1), .int .i64 (Int.ofNat g)] [fltM s i g, prtM s i] (.bool true) [fltM s i g, prtM s i]
noncomputable def isB (s : List UInt8) (i g : Nat) : Bool := ranL cfgE 300 9 [.ifc 44 (.ptr 0 0), .ifc 46 (.int .i64 (Int.ofNat g))] [fltM s i g] (.bool true) [fltM s i g]
noncomputable def asB (s : List UInt8) (i g : Nat) : Bool := ranL cfgE 300 10 [.ifc 44 (.ptr 0 0), .ifc 48 (.ptr 1 0)] [fltM s i g, [.nilP]] (.bool true) [fltM s i g, [.ptr 0 0]]
theorem tells_opt1 : tellsB [111, 112, 116, 105, 111, 110, 115] 0 1 = true := by kernel_rfl
theorem tells_opt7 : tellsB [111, 112, 116, 105, 111, 110, 115] 0 7 = true := by kernel_rfl
theorem tells_type : tellsB [116, 121, 112, 101] 0 5 = true := by kernel_rfl
theorem is_type : isB [116, 121, 112, 101] 0 5 = true := by kernel_rfl
theorem tells_rows0 : ((List.range 10).all fun i => tellsB [114, 111, 119] (0 + i) 1) = true := by kernel_rfl
theorem tells_rows1 : ((List.range 10).all fun i => tellsB [114, 111, 119] (10 + i) 1) = true := by kernel_rfl
theorem tells_rows2 : ((List.range 10).all fun i => tellsB [114, 111, 119] (20 + i) 1) = true := by kernel_rfl
theorem tells_rows3 : ((List.range 10).all fun i => tellsB [114, 111, 119] (30 + i) 1) = true := by kernel_rfl
theorem tells_rows4 : ((List.range 10).all fun i => tellsB [114, 111, 119] (40 + i) 1) = true := by kernel_rfl
theorem tells_rows : ∀ i, i < 50 → tellsB [114, 111, 119] i 1 = true := fun i hi => by
  have key : ∀ k, ((List.range 10).all fun i => tellsB [114, 111, 119] (k + i) 1) = true → k ≤ i → i < k + 10 → tellsB [114, 111, 119] i 1 = true := fun k h h1 h2 => by
    have := List.all_eq_true.1 h (i - k) (List.mem_range.2 (by omega))
    rwa [show k + (i - k) = i by omega] at this
  by_cases h0 : i < 10
  · exact key 0 tells_rows0 (by omega) (by omega)
  by_cases h1 : i < 20
  · exact key 10 tells_rows1 (by omega) (by omega)
  by_cases h2 : i < 30
  · exact key 20 tells_rows2 (by omega) (by omega)
  by_cases h3 : i < 40
  · exact key 30 tells_rows3 (by omega) (by omega)
  exact key 40 tells_rows4 (by omega) (by omega)
theorem is_rows0 : ((List.range 10).all fun i => isB [114, 111, 119] (0 + i) 1) = true := by kernel_rfl
theorem is_rows1 : ((List.range 10).all fun i => isB [114, 111, 119] (10 + i) 1) = true := by kernel_rfl
theorem is_rows2 : ((List.range 10).all fun i => isB [114, 111, 119] (20 + i) 1) = true := by kernel_rfl
theorem is_rows3 : ((List.range 10).all fun i => isB [114, 111, 119] (30 + i) 1) = true := by kernel_rfl
theorem is_rows4 : ((List.range 10).all fun i => isB [114, 111, 119] (40 + i) 1) = true := by kernel_rfl
theorem is_rows : ∀ i, i < 50 → isB [114, 111, 119] i 1 = true := fun i hi => by
  have key : ∀ k, ((List.range 10).all fun i => isB [114, 111, 119] (k + i) 1) = true → k ≤ i → i < k + 10 → isB [114, 111, 119] i 1 = true := fun k h h1 h2 => by
    have := List.all_eq_true.1 h (i - k) (List.mem_range.2 (by omega))
    rwa [show k + (i - k) = i by omega] at this
  by_cases h0 : i < 10
  · exact key 0 is_rows0 (by omega) (by omega)
  by_cases h1 : i < 20
  · exact key 10 is_rows1 (by omega) (by omega)
  by_cases h2 : i < 30
  · exact key 20 is_rows2 (by omega) (by omega)
  by_cases h3 : i < 40
  · exact key 30 is_rows3 (by omega) (by omega)
  exact key 40 is_rows4 (by omega) (by omega)
theorem as_rows0 : ((List.range 10).all fun i => asB [114, 111, 119] (0 + i) 1) = true := by kernel_rfl
theorem as_rows1 : ((List.range 10).all fun i => asB [114, 111, 119] (10 + i) 1) = true := by kernel_rfl
theorem as_rows2 : ((List.range 10).all fun i => asB [114, 111, 119] (20 + i) 1) = true := by kernel_rfl
theorem as_rows3 : ((List.range 10).all fun i => asB [114, 111, 119] (30 + i) 1) = true := by kernel_rfl
theorem as_rows4 : ((List.range 10).all fun i => asB [114, 111, 119] (40 + i) 1) = true := by kernel_rfl
theorem as_rows : ∀ i, i < 50 → asB [114, 111, 119] i 1 = true := fun i hi => by
  have key : ∀ k, ((List.range 10).all fun i => asB [114, 111, 119] (k + i) 1) = true → k ≤ i → i < k + 10 → asB [114, 111, 119] i 1 = true := fun k h h1 h2 => by
    have := List.all_eq_true.1 h (i - k) (List.mem_range.2 (by omega))
    rwa [show k + (i - k) = i by omega] at this
  by_cases h0 : i < 10
  · exact key 0 as_rows0 (by omega) (by omega)
  by_cases h1 : i < 20
  · exact key 10 as_rows1 (by omega) (by omega)
  by_cases h2 : i < 30
  · exact key 20 as_rows2 (by omega) (by omega)
  by_cases h3 : i < 40
  · exact key 30 as_rows3 (by omega) (by omega)
  exact key 40 as_rows4 (by omega) (by omega)
end Go.Proofs.YtinnmaeeeohkeaaGreatDoor
