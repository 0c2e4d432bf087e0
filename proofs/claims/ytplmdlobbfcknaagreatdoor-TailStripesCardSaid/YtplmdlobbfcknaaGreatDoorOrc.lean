import Derived.Test.YtplmdlobbfcknaaGreatDoorL9
namespace Go.Proofs.YtplmdlobbfcknaaGreatDoor
open Go.Ev Go
def sFoot:List UInt8:=[102,111,111,116]
def fi:List UInt8:=[115,116,114,105,112,101]
def fltD (s:List UInt8) (i e:Int):D:= .ifc 95 (.ptr (.agg [.str s,.int .i64 i,.ifc 84 (.int .i64 e)]))
def prtD (s:List UInt8) (i:Int):D:= .agg [.str s,.int .i64 i,.int .i64 0]
def xd:List D→Option V
 | []=>some (.d (.bool true))
 |_=>none
def xe:List D→Option V
 | [.str s,.int .i64 i,.int .i64 e]=>some (.d (fltD s i e))
 |_=>none
def toldB (s:List UInt8) (i:Int):Bool:=(s==sFoot&&i==0)||(s==fi&&decide (0≤i)&&decide (i<20))
def xc:List D→Option V
 | [.ifc 95 (.ptr (.agg [.str s,.int .i64 i,.ifc 84 (.int .i64 2)])),.sl [.agg [.str s',.int .i64 i',.int .i64 0]],.int .i64 2]=>if s=s'∧i=i'∧toldB s i=true then some (.d (.bool true)) else none
 |_=>none
def asf:List D→Option V
 | [.nilS,.agg [.int .i64 k,.sl [],.sl [],.int .i64 a,.int .i64 b,.int .i64 c],.int .i64 p,.int .i64 q]=>some (.own false 9 [.agg [.int .i64 k,.sl [],.sl [],.int .i64 a,.int .i64 b,.int .i64 c,.sl [],.int .i64 p,.int .i64 q]])
 |_=>none
def errTy:Array Value:= #[.iface 184 (.agg #[.pointer (some ⟨7,52,none⟩)])]
def gobjs:Nat→Option (Array Value):=fun n=>if n=0 then some errTy else none
