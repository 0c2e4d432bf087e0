import Derived.Ground.GgtProg
import Derived.Shelf.GgSortMore.SortSort
import Derived.Ground.Names2Prog
import Derived.Ground.GgsProg
import Derived.Ground.SlgnProg
import Derived.Test.YtkdiccgfbfbjlaaGreatProg
namespace Go.Proofs
open Go.Shelf
def Tryz.HI:Go.Shelf.Ren:=⟨fun|11=>126|17=>162|18=>163|31=>183|32=>184|33=>185|34=>186|35=>187|36=>188|37=>189|38=>190|39=>191|40=>192|43=>198|44=>199|45=>200|46=>201|47=>202|50=>211|n=>n,fun|45=>227|3=>3|4=>4|47=>150|0=>0|56=>185|58=>104|61=>249|60=>248|65=>195|5=>5|9=>9|67=>256|71=>140|73=>268|74=>134|43=>228|26=>252|38=>255|n=>n,fun|n=>n⟩
theorem Tryz.Hw:Go.Proofs.LaysGt.n11 Tryz.prog Tryz.HI:={
 mixed:=by kernel_rfl
 f11:=Tryz.func126.trans (congrArg some (by kernel_rfl))
 f17:=Tryz.func162.trans (congrArg some (by kernel_rfl))
 f18:=Tryz.func163.trans (congrArg some (by kernel_rfl))
 f31:=Tryz.func183.trans (congrArg some (by kernel_rfl))
 f32:=Tryz.func184.trans (congrArg some (by kernel_rfl))
 f33:=Tryz.func185.trans (congrArg some (by kernel_rfl))
 f34:=Tryz.func186.trans (congrArg some (by kernel_rfl))
 f35:=Tryz.func187.trans (congrArg some (by kernel_rfl))
 f36:=Tryz.func188.trans (congrArg some (by kernel_rfl))
 f37:=Tryz.func189.trans (congrArg some (by kernel_rfl))
 f38:=Tryz.func190.trans (congrArg some (by kernel_rfl))
 f39:=Tryz.func191.trans (congrArg some (by kernel_rfl))
 f40:=Tryz.func192.trans (congrArg some (by kernel_rfl))
 f43:=Tryz.func198.trans (congrArg some (by kernel_rfl))
 f44:=Tryz.func199.trans (congrArg some (by kernel_rfl))
 f45:=Tryz.func200.trans (congrArg some (by kernel_rfl))
 f46:=Tryz.func201.trans (congrArg some (by kernel_rfl))
 f47:=Tryz.func202.trans (congrArg some (by kernel_rfl))
 f50:=Tryz.func211.trans (congrArg some (by kernel_rfl))
 t0:=Tryz.underlying0
 a0:=Tryz.isAgg0
 z0:=Tryz.sizeOf0
 v0:=Tryz.zeroValue0
 i0:=by kernel_rfl
 t3:=Tryz.underlying3
 a3:=Tryz.isAgg3
 z3:=Tryz.sizeOf3
 v3:=Tryz.zeroValue3
 i3:=by kernel_rfl
 t4:=Tryz.underlying4
 a4:=Tryz.isAgg4
 z4:=Tryz.sizeOf4
 v4:=Tryz.zeroValue4
 i4:=by kernel_rfl
 t5:=Tryz.underlying5
 a5:=Tryz.isAgg5
 z5:=Tryz.sizeOf5
 v5:=Tryz.zeroValue5
 i5:=by kernel_rfl
 t9:=Tryz.underlying9
 a9:=Tryz.isAgg9
 z9:=Tryz.sizeOf9
 v9:=Tryz.zeroValue9
 i9:=by kernel_rfl
 t26:=Tryz.underlying252
 a26:=Tryz.isAgg252
 z26:=Tryz.sizeOf252
 v26:=Tryz.zeroValue252
 i26:=by kernel_rfl
 t38:=Tryz.underlying255
 a38:=Tryz.isAgg255
 z38:=Tryz.sizeOf255
 v38:=Tryz.zeroValue255
 i38:=by kernel_rfl
 t43:=Tryz.underlying228
 a43:=Tryz.isAgg228
 z43:=Tryz.sizeOf228
 v43:=Tryz.zeroValue228
 i43:=by kernel_rfl
 t45:=Tryz.underlying227
 a45:=Tryz.isAgg227
 z45:=Tryz.sizeOf227
 v45:=Tryz.zeroValue227
 i45:=by kernel_rfl
 t47:=Tryz.underlying150
 a47:=Tryz.isAgg150
 z47:=Tryz.sizeOf150
 v47:=Tryz.zeroValue150
 i47:=by kernel_rfl
 t56:=Tryz.underlying185
 a56:=Tryz.isAgg185
 z56:=Tryz.sizeOf185
 v56:=Tryz.zeroValue185
 i56:=by kernel_rfl
 t58:=Tryz.underlying104
 a58:=Tryz.isAgg104
 z58:=Tryz.sizeOf104
 v58:=Tryz.zeroValue104
 i58:=by kernel_rfl
 t60:=Tryz.underlying248
 a60:=Tryz.isAgg248
 z60:=Tryz.sizeOf248
 v60:=Tryz.zeroValue248
 i60:=by kernel_rfl
 t61:=Tryz.underlying249
 a61:=Tryz.isAgg249
 z61:=Tryz.sizeOf249
 v61:=Tryz.zeroValue249
 i61:=by kernel_rfl
 t65:=Tryz.underlying195
 a65:=Tryz.isAgg195
 z65:=Tryz.sizeOf195
 v65:=Tryz.zeroValue195
 i65:=by kernel_rfl
 t67:=Tryz.underlying256
 a67:=Tryz.isAgg256
 z67:=Tryz.sizeOf256
 v67:=Tryz.zeroValue256
 i67:=by kernel_rfl
 t71:=Tryz.underlying140
 a71:=Tryz.isAgg140
 z71:=Tryz.sizeOf140
 v71:=Tryz.zeroValue140
 i71:=by kernel_rfl
 t73:=Tryz.underlying268
 a73:=Tryz.isAgg268
 z73:=Tryz.sizeOf268
 v73:=Tryz.zeroValue268
 i73:=by kernel_rfl
 t74:=Tryz.underlying134
 a74:=Tryz.isAgg134
 z74:=Tryz.sizeOf134
 v74:=Tryz.zeroValue134
 i74:=by kernel_rfl}
open Go.RowKit Go.Lib Go.Sort in
theorem Tryz.sort_Sort_tiny {α:Type} [Inhabited α] (T:TypeId) (rv:Value) (gn:Nat) (rN:Reaches Tryz.prog T rv "Len" gn) (n:Nat) (hn:n≤1) (w:World) (hlen:LenM Tryz.prog gn rv n w):
 Calls Tryz.prog 126 #[.iface T rv] w fun e w'=>e= .returned (.tuple #[])∧∃ q,w'=w.drewN q:=Any.sort_Sort_tiny Tryz.Hw T rv gn rN n hn w hlen
open Go.RowKit Go.Lib Go.Sort in
theorem Tryz.sort_Sort_sorted {α:Type} [Inhabited α] (T:TypeId) (rv:Value) (gn gl gs:Nat) (rN:Reaches Tryz.prog T rv "Len" gn) (rL:Reaches Tryz.prog T rv "Less" gl) (rS:Reaches Tryz.prog T rv "Swap" gs) (enc:α→Value) (lt:α→α→Bool) (hO:SWO lt) (A3 off:Nat) (d:Array α) (h2:2≤d.size) (hsz:d.size<4611686018427387904) (w:World) (hlen:LenM Tryz.prog gn rv d.size w) (hless:LessM Tryz.prog gl rv enc lt A3 off d.size w) (hswap:SwapM Tryz.prog gs rv enc A3 off d.size) (hH:Holds enc w A3 off d) (hblk:A3<w.heap.size):
 Calls Tryz.prog 126 #[.iface T rv] w fun e w'=>e= .returned (.tuple #[])∧∃ d' n os,PermIn 0 d.size d d'∧SortedIn lt 0 d.size d'∧w'=grow (putRow enc (Sort.ahead w n) A3 off d') os:=Any.sort_Sort_sorted Tryz.Hw T rv gn gl gs rN rL rS enc lt hO A3 off d h2 hsz w hlen hless hswap hH hblk
end Go.Proofs
