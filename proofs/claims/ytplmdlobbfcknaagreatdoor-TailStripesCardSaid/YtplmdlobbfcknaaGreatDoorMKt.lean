import Derived.Test.YtplmdlobbfcknaaGreatDoorMK
namespace Go.Proofs.YtplmdlobbfcknaaGreatDoor
open Go Go.Me Go.RowKit
variable [Gam]
set_option linter.unusedSectionVars false
set_option linter.unusedVariables false
set_option linter.unusedSimpArgs false
set_option maxRecDepth 100000
def kFoot:List UInt8:=[102,111,111,116]
def bu:List UInt8:=[115,116,114,105,112,101]
theorem aqk:cg kFoot 0=true:=by kernel_rfl
theorem tells_0:(cg bu 0&&cg bu 1&&cg bu 2&&cg bu 3)=true:=by kernel_rfl
theorem tells_1:(cg bu 4&&cg bu 5&&cg bu 6&&cg bu 7)=true:=by kernel_rfl
theorem tells_2:(cg bu 8&&cg bu 9&&cg bu 10&&cg bu 11)=true:=by kernel_rfl
theorem tells_3:(cg bu 12&&cg bu 13&&cg bu 14&&cg bu 15)=true:=by kernel_rfl
theorem tells_4:(cg bu 16&&cg bu 17&&cg bu 18&&cg bu 19)=true:=by kernel_rfl
theorem xl:((List.range 20).all fun i=>cg bu i)=true:=by
 have h0:=tells_0;have h1:=tells_1;have h2:=tells_2;have h3:=tells_3;have h4:=tells_4;simp only[Bool.and_eq_true] at h0 h1 h2 h3 h4;rw[List.all_eq_true];intro i hi;have hi:=List.mem_range.1 hi
 match i,hi with
 |0,_=>exact h0.1.1.1
 |1,_=>exact h0.1.1.2
 |2,_=>exact h0.1.2
 |3,_=>exact h0.2
 |4,_=>exact h1.1.1.1
 |5,_=>exact h1.1.1.2
 |6,_=>exact h1.1.2
 |7,_=>exact h1.2
 |8,_=>exact h2.1.1.1
 |9,_=>exact h2.1.1.2
 |10,_=>exact h2.1.2
 |11,_=>exact h2.2
 |12,_=>exact h3.1.1.1
 |13,_=>exact h3.1.1.2
 |14,_=>exact h3.1.2
 |15,_=>exact h3.2
 |16,_=>exact h4.1.1.1
 |17,_=>exact h4.1.1.2
 |18,_=>exact h4.1.2
 |19,_=>exact h4.2
 |i+20,hi=>omega
