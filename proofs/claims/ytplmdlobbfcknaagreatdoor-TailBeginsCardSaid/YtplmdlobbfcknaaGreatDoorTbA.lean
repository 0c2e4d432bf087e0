/- TailBegins: the closed calls. Own work. -/
import Derived.Test.YtplmdlobbfcknaaGreatDoorK
namespace Go.Proofs.YtplmdlobbfcknaaGreatDoor
open Go Go.RowKit Go.Me
set_option linter.unusedVariables false
set_option linter.unusedSimpArgs false
set_option maxRecDepth 100000

def yB : Ob := cellsB 1 .nilP [8, 3, 16, 0, 34, 2, 8, 12, 48, 0, 58, 4, 8, 0, 80, 0, 64, 0]
def zB : Ob := cellsB 1 .nilP [8, 18, 16, 0, 24, 0, 34, 2, 0, 12, 40, 0, 48, 1, 130, 244, 3, 3, 79, 82, 67]
def winB : Ob := cellsB 1 .nilP [8, 3, 16, 0, 34, 2, 8, 12, 48, 0, 58, 4, 8, 0, 80, 0, 64, 0, 8, 18, 16, 0, 24, 0, 34, 2, 0, 12, 40, 0, 48, 1, 130, 244, 3, 3, 79, 82, 67, 21]
def stM : List M := [.int .i64 0, .bool false, .bool false, .bool false, .int .i64 0, .int .i64 0, .nilS, .nilS, .bool false, .int .i64 0, .int .i64 0, .nilS, .nilS, .bool false, .int .i64 0]
theorem lit_y : yB.lit = true := by kernel_rfl
theorem lit_z : zB.lit = true := by kernel_rfl
theorem lit_win : winB.lit = true := by kernel_rfl
theorem lit_st : (cellsL 0 .nilP stM).lit = true := by kernel_rfl
theorem ran_foot : ranG cfg0 400 6 [.agg [.int .i64 0, .nilS, .int .i64 12, .nilS, .nilS, .int .i64 0, .int .i64 0, .int .i64 0, .nilS, .int .i64 0, .sl 0 0 1 (some 1), .int .i64 0]] [cellsL 0 .nilP stM] (.tup [.sl 148 0 18 none, .int .i64 0]) [(0, cellsL 0 .nilP stM), (148, yB)] = true := by kernel_rfl
theorem ran_chunk : ranG cfg0 400 19 [.sl 0 0 18 none, .int .i64 0, .int .i64 64] [yB] (.tup [.sl 2 0 18 none, .int .i64 0]) [(0, yB), (2, yB)] = true := by kernel_rfl
theorem ran_post : ranG cfg0 400 20 [.agg [.int .i64 18, .int .i64 0, .int .i64 0, .int .i64 0]] [] (.tup [.sl 36 0 21 none, .int .i64 0]) [(36, zB)] = true := by kernel_rfl
theorem ran_clone : ranG cfg0 400 66 [.sl 0 18 21 none] [winB] (.sl 2 0 21 none) [(0, winB), (2, zB)] = true := by kernel_rfl
theorem ran_clip : ranG cfg0 400 32 [.sl 0 0 21 none] [zB] (.sl 0 0 21 (some 21)) [(0, zB)] = true := by kernel_rfl
theorem ran_postd : ranG cfg0 400 44 [.sl 0 0 21 (some 21)] [zB] (.tup [.agg [.int .i64 18, .int .i64 0, .int .i64 0, .int .i64 0], .int .i64 0]) [(0, zB)] = true := by kernel_rfl
theorem ran_footer : ranG cfg0 400 23 [.sl 0 0 18 none, .agg [.int .i64 18, .int .i64 0, .int .i64 0, .int .i64 0]] [winB] (.tup [.agg [.int .i64 0, .nilS, .int .i64 12, .nilS, .nilS, .int .i64 0, .int .i64 0, .int .i64 0, .nilS, .int .i64 0, .sl 273 0 1 (some 1), .int .i64 0], .int .i64 0]) [(0, winB)] = true := by kernel_rfl
def fltM (s : List UInt8) (i : Nat) (g : Nat) : List M := [.str s, .int .i64 (Int.ofNat i), .ifc 84 (.int .i64 (Int.ofNat g))]
def prtM (s : List UInt8) (i : Nat) : List M := [.str s, .int .i64 (Int.ofNat i), .int .i64 0]
noncomputable def tellsB (s : List UInt8) (i g : Nat) : Bool := ranL cfg0 300 9 [.ifc 95 (.ptr 0 0), .sl 1 0 1 (some 1), .int .i64 (Int.ofNat g)] [fltM s i g, prtM s i] (.bool true) [fltM s i g, prtM s i]
theorem tells_post : tellsB [112, 111, 115, 116] 0 2 = true := by kernel_rfl
end Go.Proofs.YtplmdlobbfcknaaGreatDoor
