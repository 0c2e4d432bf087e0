import Derived.Test.YtkdiccgfbfbjlaaGreatL9
namespace Go.Proofs.YtkdiccgfbfbjlaaGreat
open Go.Ev Go
def xk:List D→Option V
 | []=>some (.d (.bool true))
 |_=>none
def xTab:List D→Option V
 | []=>some (.own false 1 (List.replicate 4096 (.int .i64 (-1))))
 |_=>none
def gk:List D→Option (List (List D))
 | [.ptr (.sl es),.ptr (.int .i64 n)]=>if 1≤n∧n≤1000000000∧es.all D.isCell=true∧es.length≤1000000000 then some (b5 es.length n.toNat es) else none
 |_=>none
