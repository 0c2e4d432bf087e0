import Derived.Test.YtkdiccgfbfbjlaaGreatPur
namespace Go.Proofs.YtkdiccgfbfbjlaaGreat
open Go.Ev Go
class Sh where
 on:Bool
def SZ:List D→Option V
 | []=>some (.own false 1 (List.replicate 4096 (.int .i64 (-1))))
 |_=>none
def jj:List D→Option (List (List D))
 | [.ptr (.sl es),.ptr (.int .i64 n)]=>if 1≤n∧n≤1000000000∧es.all D.AP=true∧es.length≤1000000000 then some (cw es.length n.toNat es) else none
 |_=>none
