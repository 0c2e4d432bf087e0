import Derived.Test.YtplmdlobbfcknaaGreatDoorMeX3
namespace Go.Proofs.YtplmdlobbfcknaaGreatDoor
open Go Go.Me
def ent0:Ent:=⟨[.sl 3 0 3 (some 3),.agg [.int .i64 0,.nilS,.int .i64 12,.sl 0 0 1 (some 1),.sl 1 0 1 (some 1),.int .i64 0,.int .i64 0,.int .i64 0,.nilS,.int .i64 0,.sl 4 0 2 (some 2),.int .i64 0],.int .i64 4,.int .i64 100],5,[(0,m9 0 (.nilP) [.str [97]]),
 (1,m9 0 (.nilP) [.int .i64 3,.nilS,.nilS,.int .i64 0,.int .i64 0,.int .i64 0]),
 (3,ael 0 (.nilP) [79,82,67]),
 (4,m9 0 (.nilP) [.int .i64 0,.bool false,.bool false,.bool false,.int .i64 0,.int .i64 0,.nilS,.nilS,.bool false,.int .i64 0,.int .i64 0,.nilS,.nilS,.bool false,.int .i64 0,.int .i64 0,.bool false,.bool false,.bool false,.int .i64 0,.int .i64 0,.nilS,.nilS,.bool false,.int .i64 0,.int .i64 0,.nilS,.nilS,.bool true,.int .i64 0])],.tup [.sl 2010 0 66 (some 66),.nilI],2011,[(0,m9 0 (.nilP) [.str [97]]),
 (1,m9 0 (.nilP) [.int .i64 3,.nilS,.nilS,.int .i64 0,.int .i64 0,.int .i64 0]),
 (3,ael 0 (.nilP) [79,82,67]),
 (4,m9 0 (.nilP) [.int .i64 0,.bool false,.bool false,.bool false,.int .i64 0,.int .i64 0,.nilS,.nilS,.bool false,.int .i64 0,.int .i64 0,.nilS,.nilS,.bool false,.int .i64 0,.int .i64 0,.bool false,.bool false,.bool false,.int .i64 0,.int .i64 0,.nilS,.nilS,.bool false,.int .i64 0,.int .i64 0,.nilS,.nilS,.bool true,.int .i64 0]),
 (2010,ael 1 (.nilP) [79,82,67,77,0,0,8,3,16,0,34,8,8,12,18,1,1,26,1,97,34,2,8,3,48,0,58,4,8,0,80,0,58,8,8,0,18,2,24,0,80,0,64,0,8,41,16,4,24,100,34,2,0,12,40,0,48,1,130,244,3,3,79,82,67,21])]⟩
def ent1:Ent:=⟨[.sl 2010 0 66 (some 66)],2011,[(2010,ael 1 (.nilP) [79,82,67,77,0,0,8,3,16,0,34,8,8,12,18,1,1,26,1,97,34,2,8,3,48,0,58,4,8,0,80,0,58,8,8,0,18,2,24,0,80,0,64,0,8,41,16,4,24,100,34,2,0,12,40,0,48,1,130,244,3,3,79,82,67,21])],.tup [.agg [.int .i64 41,.int .i64 4,.int .i64 100,.int .i64 0,.int .i64 0,.nilS,.int .i64 12,.sl 2454 0 1 (some 1),.sl 2474 0 1 (some 1),.int .i64 0,.int .i64 0,.int .i64 0,.nilS,.int .i64 0,.sl 2720 0 2 (some 2),.int .i64 0],.nilI],2729,[(2010,ael 1 (.nilP) [79,82,67,77,0,0,8,3,16,0,34,8,8,12,18,1,1,26,1,97,34,2,8,3,48,0,58,4,8,0,80,0,58,8,8,0,18,2,24,0,80,0,64,0,8,41,16,4,24,100,34,2,0,12,40,0,48,1,130,244,3,3,79,82,67,21]),
 (2454,m9 1 (.nilP) [.str [97]]),
 (2474,m9 6 (.nilP) [.int .i64 3,.nilS,.nilS,.int .i64 0,.int .i64 0,.int .i64 0]),
 (2720,m9 15 (.nilP) [.int .i64 0,.bool false,.bool false,.bool false,.int .i64 0,.int .i64 0,.nilS,.nilS,.bool false,.int .i64 0,.int .i64 0,.nilS,.nilS,.bool false,.int .i64 0,.int .i64 0,.bool false,.bool false,.bool false,.int .i64 0,.int .i64 0,.nilS,.nilS,.bool false,.int .i64 0,.int .i64 0,.nilS,.nilS,.bool true,.int .i64 0])]⟩
