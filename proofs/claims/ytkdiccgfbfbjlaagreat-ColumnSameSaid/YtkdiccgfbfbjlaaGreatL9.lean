import Derived.Test.YtkdiccgfbfbjlaaGreatL8
namespace Go.Ev
open Go
def lV (n:Nat):Nat:=(H7 20 n).length
theorem ak4 (k n:Nat):H7 (k+1) n=if n<10 then[UInt8.ofNat (48+n)] else H7 k (n / 10)++[UInt8.ofNat (48+n % 10)]:=rfl
