/- Calls of the chapter's own example, reckoned by themselves: what they come to. Own work. -/
import Derived.Test.YtinnmaeeeohkeaaGreatDoorMeX3
namespace Go.Proofs.YtinnmaeeeohkeaaGreatDoor
open Go Go.Me
/-- ingot/stripe.Write -/
def ent0 : Ent := ⟨[.agg [.int .i64 12, .sl 0 0 1 (some 1), .sl 1 0 1 (some 1), .int .i64 0, .int .i64 0, .int .i64 0], .sl 5 0 2 (some 2), .agg [.int .i64 4, .int .i64 4096, .int .i64 2, .int .i64 50, .int .i64 1000, .int .i64 100]], 531, [(0, cellsL 0 (.nilP) [.str [97]]),
  (1, cellsL 0 (.nilP) [.int .i64 3, .nilS, .nilS, .int .i64 0, .int .i64 0, .int .i64 0]),
  (3, cellsL 0 (.nilP) [.bool false, .int .i64 5, .int .i64 0, .nilS, .nilS]),
  (4, cellsL 0 (.nilP) [.bool true, .int .i64 0, .int .i64 0, .nilS, .nilS]),
  (5, cellsL 0 (.nilP) [.bool false, .int .i64 0, .int .i64 0, .nilS, .sl 3 0 1 (some 1), .bool false, .int .i64 0, .int .i64 0, .nilS, .sl 4 0 1 (some 1)])], .tup [.sl 4840 0 89 (some 89), .agg [.int .i64 0, .int .i64 30, .int .i64 11, .int .i64 48, .int .i64 2], .sl 2815 0 2 (some 2), .nilI], 4841, [(0, cellsL 0 (.nilP) [.str [97]]),
  (1, cellsL 0 (.nilP) [.int .i64 3, .nilS, .nilS, .int .i64 0, .int .i64 0, .int .i64 0]),
  (3, cellsL 0 (.nilP) [.bool false, .int .i64 5, .int .i64 0, .nilS, .nilS]),
  (4, cellsL 0 (.nilP) [.bool true, .int .i64 0, .int .i64 0, .nilS, .nilS]),
  (5, cellsL 0 (.nilP) [.bool false, .int .i64 0, .int .i64 0, .nilS, .sl 3 0 1 (some 1), .bool false, .int .i64 0, .int .i64 0, .nilS, .sl 4 0 1 (some 1)]),
  (2815, cellsL 15 (.nilP) [.int .i64 2, .bool false, .bool false, .bool false, .int .i64 0, .int .i64 0, .nilS, .nilS, .bool false, .int .i64 0, .int .i64 0, .nilS, .nilS, .bool false, .int .i64 0, .int .i64 1, .bool true, .bool true, .bool false, .int .i64 5, .int .i64 0, .nilS, .nilS, .bool false, .int .i64 5, .int .i64 0, .nilS, .nilS, .bool true, .int .i64 5]),
  (4840, cellsB 1 (.nilP) [17, 0, 0, 10, 6, 18, 4, 8, 2, 80, 0, 33, 0, 0, 10, 14, 18, 12, 8, 1, 18, 6, 8, 10, 16, 10, 24, 10, 80, 1, 5, 0, 0, 255, 128, 7, 0, 0, 70, 0, 160, 91, 0, 0, 10, 6, 8, 6, 16, 0, 24, 11, 10, 6, 8, 6, 16, 1, 24, 19, 10, 6, 8, 0, 16, 1, 24, 5, 10, 6, 8, 1, 16, 1, 24, 6, 18, 2, 8, 0, 18, 2, 8, 2, 26, 3, 85, 84, 67])]⟩
/-- ingot/tail.Close -/
def ent1 : Ent := ⟨[.sl 4841 0 92 none, .agg [.int .i64 89, .sl 4843 0 1 none, .int .i64 12, .sl 0 0 1 (some 1), .sl 1 0 1 (some 1), .int .i64 0, .int .i64 0, .int .i64 0, .sl 11 0 1 (some 1), .int .i64 2, .sl 513 0 2 none, .int .i64 100], .int .i64 4, .int .i64 4096], 4960, [(0, cellsL 0 (.nilP) [.str [97]]),
  (1, cellsL 0 (.nilP) [.int .i64 3, .nilS, .nilS, .int .i64 0, .int .i64 0, .int .i64 0]),
  (8, cellsB 0 (.nilP) [118]),
  (11, cellsL 0 (.nilP) [.str [107], .sl 8 0 1 (some 1)]),
  (513, cellsL 15 (.nilP) [.int .i64 2, .bool false, .bool false, .bool false, .int .i64 0, .int .i64 0, .nilS, .nilS, .bool false, .int .i64 0, .int .i64 0, .nilS, .nilS, .bool false, .int .i64 0, .int .i64 1, .bool true, .bool true, .bool false, .int .i64 5, .int .i64 0, .nilS, .nilS, .bool false, .int .i64 5, .int .i64 0, .nilS, .nilS, .bool true, .int .i64 5]),
  (4841, cellsB 1 (.nilP) [79, 82, 67, 17, 0, 0, 10, 6, 18, 4, 8, 2, 80, 0, 33, 0, 0, 10, 14, 18, 12, 8, 1, 18, 6, 8, 10, 16, 10, 24, 10, 80, 1, 5, 0, 0, 255, 128, 7, 0, 0, 70, 0, 160, 91, 0, 0, 10, 6, 8, 6, 16, 0, 24, 11, 10, 6, 8, 6, 16, 1, 24, 19, 10, 6, 8, 0, 16, 1, 24, 5, 10, 6, 8, 1, 16, 1, 24, 6, 18, 2, 8, 0, 18, 2, 8, 2, 26, 3, 85, 84, 67]),
  (4843, cellsL 5 (.nilP) [.int .i64 3, .int .i64 30, .int .i64 11, .int .i64 48, .int .i64 2])], .tup [.sl 8152 0 180 (some 180), .nilI], 8153, [(0, cellsL 0 (.nilP) [.str [97]]),
  (1, cellsL 0 (.nilP) [.int .i64 3, .nilS, .nilS, .int .i64 0, .int .i64 0, .int .i64 0]),
  (8, cellsB 0 (.nilP) [118]),
  (11, cellsL 0 (.nilP) [.str [107], .sl 8 0 1 (some 1)]),
  (513, cellsL 15 (.nilP) [.int .i64 2, .bool false, .bool false, .bool false, .int .i64 0, .int .i64 0, .nilS, .nilS, .bool false, .int .i64 0, .int .i64 0, .nilS, .nilS, .bool false, .int .i64 0, .int .i64 1, .bool true, .bool true, .bool false, .int .i64 5, .int .i64 0, .nilS, .nilS, .bool false, .int .i64 5, .int .i64 0, .nilS, .nilS, .bool true, .int .i64 5]),
  (4841, cellsB 1 (.nilP) [79, 82, 67, 17, 0, 0, 10, 6, 18, 4, 8, 2, 80, 0, 33, 0, 0, 10, 14, 18, 12, 8, 1, 18, 6, 8, 10, 16, 10, 24, 10, 80, 1, 5, 0, 0, 255, 128, 7, 0, 0, 70, 0, 160, 91, 0, 0, 10, 6, 8, 6, 16, 0, 24, 11, 10, 6, 8, 6, 16, 1, 24, 19, 10, 6, 8, 0, 16, 1, 24, 5, 10, 6, 8, 1, 16, 1, 24, 6, 18, 2, 8, 0, 18, 2, 8, 2, 26, 3, 85, 84, 67]),
  (4843, cellsL 5 (.nilP) [.int .i64 3, .int .i64 30, .int .i64 11, .int .i64 48, .int .i64 2]),
  (8152, cellsB 1 (.nilP) [79, 82, 67, 17, 0, 0, 10, 6, 18, 4, 8, 2, 80, 0, 33, 0, 0, 10, 14, 18, 12, 8, 1, 18, 6, 8, 10, 16, 10, 24, 10, 80, 1, 5, 0, 0, 255, 128, 7, 0, 0, 70, 0, 160, 91, 0, 0, 10, 6, 8, 6, 16, 0, 24, 11, 10, 6, 8, 6, 16, 1, 24, 19, 10, 6, 8, 0, 16, 1, 24, 5, 10, 6, 8, 1, 16, 1, 24, 6, 18, 2, 8, 0, 18, 2, 8, 2, 26, 3, 85, 84, 67, 125, 0, 0, 8, 3, 16, 89, 26, 10, 8, 3, 16, 30, 24, 11, 32, 48, 40, 2, 34, 8, 8, 12, 18, 1, 1, 26, 1, 97, 34, 2, 8, 3, 42, 6, 10, 1, 107, 18, 1, 118, 48, 2, 58, 4, 8, 2, 80, 0, 58, 12, 8, 1, 18, 6, 8, 10, 16, 10, 24, 10, 80, 1, 64, 100, 8, 65, 16, 4, 24, 128, 32, 34, 2, 0, 12, 40, 0, 48, 1, 130, 244, 3, 3, 79, 82, 67, 22])]⟩
/-- ingot/ingotref24.Open -/
def ent2 : Ent := ⟨[.sl 8152 0 180 (some 180)], 8153, [(8152, cellsB 1 (.nilP) [79, 82, 67, 17, 0, 0, 10, 6, 18, 4, 8, 2, 80, 0, 33, 0, 0, 10, 14, 18, 12, 8, 1, 18, 6, 8, 10, 16, 10, 24, 10, 80, 1, 5, 0, 0, 255, 128, 7, 0, 0, 70, 0, 160, 91, 0, 0, 10, 6, 8, 6, 16, 0, 24, 11, 10, 6, 8, 6, 16, 1, 24, 19, 10, 6, 8, 0, 16, 1, 24, 5, 10, 6, 8, 1, 16, 1, 24, 6, 18, 2, 8, 0, 18, 2, 8, 2, 26, 3, 85, 84, 67, 125, 0, 0, 8, 3, 16, 89, 26, 10, 8, 3, 16, 30, 24, 11, 32, 48, 40, 2, 34, 8, 8, 12, 18, 1, 1, 26, 1, 97, 34, 2, 8, 3, 42, 6, 10, 1, 107, 18, 1, 118, 48, 2, 58, 4, 8, 2, 80, 0, 58, 12, 8, 1, 18, 6, 8, 10, 16, 10, 24, 10, 80, 1, 64, 100, 8, 65, 16, 4, 24, 128, 32, 34, 2, 0, 12, 40, 0, 48, 1, 130, 244, 3, 3, 79, 82, 67, 22])], .tup [.agg [.int .i64 65, .int .i64 4, .int .i64 4096, .int .i64 0, .int .i64 89, .sl 8509 0 1 none, .int .i64 12, .sl 8541 0 1 none, .sl 8557 0 1 none, .int .i64 0, .int .i64 0, .int .i64 0, .sl 8566 0 1 none, .int .i64 2, .sl 8716 0 2 none, .int .i64 100], .agg [.nilS, .int .i64 0]], 8719, [(8152, cellsB 1 (.nilP) [79, 82, 67, 17, 0, 0, 10, 6, 18, 4, 8, 2, 80, 0, 33, 0, 0, 10, 14, 18, 12, 8, 1, 18, 6, 8, 10, 16, 10, 24, 10, 80, 1, 5, 0, 0, 255, 128, 7, 0, 0, 70, 0, 160, 91, 0, 0, 10, 6, 8, 6, 16, 0, 24, 11, 10, 6, 8, 6, 16, 1, 24, 19, 10, 6, 8, 0, 16, 1, 24, 5, 10, 6, 8, 1, 16, 1, 24, 6, 18, 2, 8, 0, 18, 2, 8, 2, 26, 3, 85, 84, 67, 125, 0, 0, 8, 3, 16, 89, 26, 10, 8, 3, 16, 30, 24, 11, 32, 48, 40, 2, 34, 8, 8, 12, 18, 1, 1, 26, 1, 97, 34, 2, 8, 3, 42, 6, 10, 1, 107, 18, 1, 118, 48, 2, 58, 4, 8, 2, 80, 0, 58, 12, 8, 1, 18, 6, 8, 10, 16, 10, 24, 10, 80, 1, 64, 100, 8, 65, 16, 4, 24, 128, 32, 34, 2, 0, 12, 40, 0, 48, 1, 130, 244, 3, 3, 79, 82, 67, 22]),
  (8417, cellsB 1 (.nilP) [118]),
  (8509, cellsL 5 (.nilP) [.int .i64 3, .int .i64 30, .int .i64 11, .int .i64 48, .int .i64 2]),
  (8541, cellsL 1 (.nilP) [.str [97]]),
  (8557, cellsL 6 (.nilP) [.int .i64 3, .nilS, .nilS, .int .i64 0, .int .i64 0, .int .i64 0]),
  (8566, cellsL 2 (.nilP) [.str [107], .sl 8417 0 1 none]),
  (8716, cellsL 15 (.nilP) [.int .i64 2, .bool false, .bool false, .bool false, .int .i64 0, .int .i64 0, .nilS, .nilS, .bool false, .int .i64 0, .int .i64 0, .nilS, .nilS, .bool false, .int .i64 0, .int .i64 1, .bool true, .bool true, .bool false, .int .i64 5, .int .i64 0, .nilS, .nilS, .bool false, .int .i64 5, .int .i64 0, .nilS, .nilS, .bool true, .int .i64 5])]⟩
/-- ingot/ingotref24.Rows -/
def ent3 : Ent := ⟨[.sl 8152 0 180 (some 180), .agg [.int .i64 65, .int .i64 4, .int .i64 4096, .int .i64 0, .int .i64 89, .sl 8509 0 1 none, .int .i64 12, .sl 8541 0 1 none, .sl 8557 0 1 none, .int .i64 0, .int .i64 0, .int .i64 0, .sl 8566 0 1 none, .int .i64 2, .sl 8716 0 2 none, .int .i64 100], .nilS], 8721, [(8152, cellsB 1 (.nilP) [79, 82, 67, 17, 0, 0, 10, 6, 18, 4, 8, 2, 80, 0, 33, 0, 0, 10, 14, 18, 12, 8, 1, 18, 6, 8, 10, 16, 10, 24, 10, 80, 1, 5, 0, 0, 255, 128, 7, 0, 0, 70, 0, 160, 91, 0, 0, 10, 6, 8, 6, 16, 0, 24, 11, 10, 6, 8, 6, 16, 1, 24, 19, 10, 6, 8, 0, 16, 1, 24, 5, 10, 6, 8, 1, 16, 1, 24, 6, 18, 2, 8, 0, 18, 2, 8, 2, 26, 3, 85, 84, 67, 125, 0, 0, 8, 3, 16, 89, 26, 10, 8, 3, 16, 30, 24, 11, 32, 48, 40, 2, 34, 8, 8, 12, 18, 1, 1, 26, 1, 97, 34, 2, 8, 3, 42, 6, 10, 1, 107, 18, 1, 118, 48, 2, 58, 4, 8, 2, 80, 0, 58, 12, 8, 1, 18, 6, 8, 10, 16, 10, 24, 10, 80, 1, 64, 100, 8, 65, 16, 4, 24, 128, 32, 34, 2, 0, 12, 40, 0, 48, 1, 130, 244, 3, 3, 79, 82, 67, 22]),
  (8417, cellsB 1 (.nilP) [118]),
  (8509, cellsL 5 (.nilP) [.int .i64 3, .int .i64 30, .int .i64 11, .int .i64 48, .int .i64 2]),
  (8541, cellsL 1 (.nilP) [.str [97]]),
  (8557, cellsL 6 (.nilP) [.int .i64 3, .nilS, .nilS, .int .i64 0, .int .i64 0, .int .i64 0]),
  (8566, cellsL 2 (.nilP) [.str [107], .sl 8417 0 1 none]),
  (8716, cellsL 15 (.nilP) [.int .i64 2, .bool false, .bool false, .bool false, .int .i64 0, .int .i64 0, .nilS, .nilS, .bool false, .int .i64 0, .int .i64 0, .nilS, .nilS, .bool false, .int .i64 0, .int .i64 1, .bool true, .bool true, .bool false, .int .i64 5, .int .i64 0, .nilS, .nilS, .bool false, .int .i64 5, .int .i64 0, .nilS, .nilS, .bool true, .int .i64 5])], .tup [.sl 9346 0 2 none, .agg [.nilS, .int .i64 0]], 9347, [(8152, cellsB 1 (.nilP) [79, 82, 67, 17, 0, 0, 10, 6, 18, 4, 8, 2, 80, 0, 33, 0, 0, 10, 14, 18, 12, 8, 1, 18, 6, 8, 10, 16, 10, 24, 10, 80, 1, 5, 0, 0, 255, 128, 7, 0, 0, 70, 0, 160, 91, 0, 0, 10, 6, 8, 6, 16, 0, 24, 11, 10, 6, 8, 6, 16, 1, 24, 19, 10, 6, 8, 0, 16, 1, 24, 5, 10, 6, 8, 1, 16, 1, 24, 6, 18, 2, 8, 0, 18, 2, 8, 2, 26, 3, 85, 84, 67, 125, 0, 0, 8, 3, 16, 89, 26, 10, 8, 3, 16, 30, 24, 11, 32, 48, 40, 2, 34, 8, 8, 12, 18, 1, 1, 26, 1, 97, 34, 2, 8, 3, 42, 6, 10, 1, 107, 18, 1, 118, 48, 2, 58, 4, 8, 2, 80, 0, 58, 12, 8, 1, 18, 6, 8, 10, 16, 10, 24, 10, 80, 1, 64, 100, 8, 65, 16, 4, 24, 128, 32, 34, 2, 0, 12, 40, 0, 48, 1, 130, 244, 3, 3, 79, 82, 67, 22]),
  (8417, cellsB 1 (.nilP) [118]),
  (8509, cellsL 5 (.nilP) [.int .i64 3, .int .i64 30, .int .i64 11, .int .i64 48, .int .i64 2]),
  (8541, cellsL 1 (.nilP) [.str [97]]),
  (8557, cellsL 6 (.nilP) [.int .i64 3, .nilS, .nilS, .int .i64 0, .int .i64 0, .int .i64 0]),
  (8566, cellsL 2 (.nilP) [.str [107], .sl 8417 0 1 none]),
  (8716, cellsL 15 (.nilP) [.int .i64 2, .bool false, .bool false, .bool false, .int .i64 0, .int .i64 0, .nilS, .nilS, .bool false, .int .i64 0, .int .i64 0, .nilS, .nilS, .bool false, .int .i64 0, .int .i64 1, .bool true, .bool true, .bool false, .int .i64 5, .int .i64 0, .nilS, .nilS, .bool false, .int .i64 5, .int .i64 0, .nilS, .nilS, .bool true, .int .i64 5]),
  (9315, cellsL 5 (.nilP) [.bool false, .int .i64 5, .int .i64 0, .nilS, .nilS]),
  (9343, cellsL 5 (.nilP) [.bool true, .int .i64 0, .int .i64 0, .nilS, .nilS]),
  (9346, cellsL 5 (.nilP) [.bool false, .int .i64 0, .int .i64 0, .nilS, .sl 9315 0 1 none, .bool false, .int .i64 0, .int .i64 0, .nilS, .sl 9343 0 1 none])]⟩
/-- (*ingot/stripe.writer).index -/
def entI : Ent := ⟨[.ptr 900 0, .agg [.int .i64 12, .sl 0 0 1 (some 1), .sl 1 0 1 (some 1), .int .i64 0, .int .i64 0, .int .i64 0], .sl 899 0 2 (some 2), .sl 5 0 2 (some 2)], 901, [(0, cellsL 0 (.nilP) [.str [97]]),
  (1, cellsL 0 (.nilP) [.int .i64 3, .nilS, .nilS, .int .i64 0, .int .i64 0, .int .i64 0]),
  (3, cellsL 0 (.nilP) [.bool false, .int .i64 5, .int .i64 0, .nilS, .nilS]),
  (4, cellsL 0 (.nilP) [.bool true, .int .i64 0, .int .i64 0, .nilS, .nilS]),
  (5, cellsL 0 (.nilP) [.bool false, .int .i64 0, .int .i64 0, .nilS, .sl 3 0 1 (some 1), .bool false, .int .i64 0, .int .i64 0, .nilS, .sl 4 0 1 (some 1)]),
  (874, cellsL 1 (.nilP) [.str [97]]),
  (878, cellsL 1 (.nilP) [.int .i64 1]),
  (899, cellsL 8 (.nilP) [.int .i64 12, .sl 878 0 1 (some 1), .sl 874 0 1 (some 1), .int .i64 0, .int .i64 0, .int .i64 0, .int .i64 (-1), .int .i64 1, .int .i64 3, .nilS, .nilS, .int .i64 0, .int .i64 0, .int .i64 0, .int .i64 0, .int .i64 2]),
  (900, cellsL 0 (.nilP) [.int .i64 4, .int .i64 4096, .int .i64 2, .int .i64 50, .int .i64 1000, .int .i64 100, .nilS, .nilS, .nilS])], .nilI, 2347, [(0, cellsL 0 (.nilP) [.str [97]]),
  (1, cellsL 0 (.nilP) [.int .i64 3, .nilS, .nilS, .int .i64 0, .int .i64 0, .int .i64 0]),
  (3, cellsL 0 (.nilP) [.bool false, .int .i64 5, .int .i64 0, .nilS, .nilS]),
  (4, cellsL 0 (.nilP) [.bool true, .int .i64 0, .int .i64 0, .nilS, .nilS]),
  (5, cellsL 0 (.nilP) [.bool false, .int .i64 0, .int .i64 0, .nilS, .sl 3 0 1 (some 1), .bool false, .int .i64 0, .int .i64 0, .nilS, .sl 4 0 1 (some 1)]),
  (874, cellsL 1 (.nilP) [.str [97]]),
  (878, cellsL 1 (.nilP) [.int .i64 1]),
  (899, cellsL 8 (.nilP) [.int .i64 12, .sl 878 0 1 (some 1), .sl 874 0 1 (some 1), .int .i64 0, .int .i64 0, .int .i64 0, .int .i64 (-1), .int .i64 1, .int .i64 3, .nilS, .nilS, .int .i64 0, .int .i64 0, .int .i64 0, .int .i64 0, .int .i64 2]),
  (900, cellsL 0 (.nilP) [.int .i64 4, .int .i64 4096, .int .i64 2, .int .i64 50, .int .i64 1000, .int .i64 100, .sl 2344 0 30 none, .sl 2346 0 2 none, .nilS]),
  (2344, cellsB 1 (.nilP) [17, 0, 0, 10, 6, 18, 4, 8, 2, 80, 0, 33, 0, 0, 10, 14, 18, 12, 8, 1, 18, 6, 8, 10, 16, 10, 24, 10, 80, 1]),
  (2346, cellsL 3 (.nilP) [.int .i64 6, .int .i64 0, .int .i64 11, .int .i64 6, .int .i64 1, .int .i64 19])]⟩
/-- ingot/colw.Write -/
def entC : Ent := ⟨[.agg [.int .i64 3, .nilS, .nilS, .int .i64 0, .int .i64 0, .int .i64 0, .int .i64 0, .int .i64 2], .int .i64 1, .agg [.sl 833 0 2 none, .sl 757 0 1 none, .nilS, .nilS, .nilS], .agg [.int .i64 4, .int .i64 4096, .int .i64 2, .int .i64 50, .int .i64 1000, .int .i64 100]], 2438, [(757, cellsL 1 (.nilP) [.int .i64 5]),
  (833, cellsL 1 (.nilP) [.bool true, .bool false])], .tup [.agg [.int .i64 2, .int .i64 0], .sl 2691 0 2 (some 2), .int .i64 0], 2704, [(757, cellsL 1 (.nilP) [.int .i64 5]),
  (833, cellsL 1 (.nilP) [.bool true, .bool false]),
  (2535, cellsB 1 (.nilP) [5, 0, 0, 255, 128]),
  (2673, cellsB 1 (.nilP) [7, 0, 0, 70, 0, 160]),
  (2691, cellsL 3 (.nilP) [.int .i64 0, .int .i64 1, .sl 2535 0 5 (some 5), .int .i64 1, .int .i64 1, .sl 2673 0 6 (some 6)])]⟩
/-- ingot/sfoot.Encode -/
def entS : Ent := ⟨[.agg [.sl 2725 0 4 none, .sl 2717 0 2 none]], 2826, [(2717, cellsL 2 (.nilP) [.int .i64 0, .int .i64 0, .int .i64 2, .int .i64 0]),
  (2725, cellsL 3 (.nilP) [.int .i64 6, .int .i64 0, .int .i64 11, .int .i64 6, .int .i64 1, .int .i64 19, .int .i64 0, .int .i64 1, .int .i64 5, .int .i64 1, .int .i64 1, .int .i64 6])], .tup [.sl 3006 0 45 (some 45), .int .i64 0], 3007, [(2717, cellsL 2 (.nilP) [.int .i64 0, .int .i64 0, .int .i64 2, .int .i64 0]),
  (2725, cellsL 3 (.nilP) [.int .i64 6, .int .i64 0, .int .i64 11, .int .i64 6, .int .i64 1, .int .i64 19, .int .i64 0, .int .i64 1, .int .i64 5, .int .i64 1, .int .i64 1, .int .i64 6]),
  (3006, cellsB 1 (.nilP) [10, 6, 8, 6, 16, 0, 24, 11, 10, 6, 8, 6, 16, 1, 24, 19, 10, 6, 8, 0, 16, 1, 24, 5, 10, 6, 8, 1, 16, 1, 24, 6, 18, 2, 8, 0, 18, 2, 8, 2, 26, 3, 85, 84, 67])]⟩
/-- ingot/chunk.Encode -/
def entE : Ent := ⟨[.sl 3006 0 45 (some 45), .int .i64 4, .int .i64 4096], 3007, [(3006, cellsB 1 (.nilP) [10, 6, 8, 6, 16, 0, 24, 11, 10, 6, 8, 6, 16, 1, 24, 19, 10, 6, 8, 0, 16, 1, 24, 5, 10, 6, 8, 1, 16, 1, 24, 6, 18, 2, 8, 0, 18, 2, 8, 2, 26, 3, 85, 84, 67])], .tup [.sl 4825 0 48 (some 48), .int .i64 0], 4826, [(3006, cellsB 1 (.nilP) [10, 6, 8, 6, 16, 0, 24, 11, 10, 6, 8, 6, 16, 1, 24, 19, 10, 6, 8, 0, 16, 1, 24, 5, 10, 6, 8, 1, 16, 1, 24, 6, 18, 2, 8, 0, 18, 2, 8, 2, 26, 3, 85, 84, 67]),
  (4825, cellsB 1 (.nilP) [91, 0, 0, 10, 6, 8, 6, 16, 0, 24, 11, 10, 6, 8, 6, 16, 1, 24, 19, 10, 6, 8, 0, 16, 1, 24, 5, 10, 6, 8, 1, 16, 1, 24, 6, 18, 2, 8, 0, 18, 2, 8, 2, 26, 3, 85, 84, 67])]⟩
end Go.Proofs.YtinnmaeeeohkeaaGreatDoor
