/-
  DERIVED: THE SHELF's CONTRACTS AT THIS DUMP, IN PLAIN WORDS (tools/lay-plain.mjs out of 'TryShelf.lean', which tools/lay-shelf.mjs wrote): THE SAME DECLARATIONS UNDER THE SAME NAMES: 'import', 'namespace', 'open', 'def', 'theorem' AND NOTHING ELSE: no command of the shelf's: FOR A HAND-IN. Each laying: the table of numbers ('.._ren') and one theorem, a field a fact of the dump's own or the kernel's comparison; each contract: ONE APPLICATION.
-/
import Derived.Ground.GgtProg
import Derived.Shelf.GgSortMore.SortSort
import Derived.Ground.GgsProg
import Derived.Test.YtghhloejmikdfaaProg
namespace Go.Proofs
open Go.Shelf
def Try.laysGt11_ren : Go.Shelf.Ren := ⟨fun | 11 => 30 | 17 => 35 | 18 => 36 | 31 => 37 | 32 => 38 | 33 => 39 | 34 => 40 | 35 => 41 | 36 => 42 | 37 => 43 | 38 => 44 | 39 => 45 | 40 => 46 | 43 => 47 | 44 => 48 | 45 => 49 | 46 => 50 | 47 => 51 | 50 => 52 | n => n, fun | 45 => 61 | 3 => 3 | 4 => 4 | 47 => 58 | 0 => 0 | 56 => 66 | 58 => 68 | 61 => 71 | 60 => 70 | 65 => 49 | 5 => 5 | 9 => 9 | 67 => 78 | 71 => 82 | 73 => 84 | 74 => 85 | 43 => 62 | 26 => 74 | 38 => 77 | n => n, fun | n => n⟩
theorem Try.laysGt11 : Go.Proofs.LaysGt.n11 Try.prog Try.laysGt11_ren := {
  mixed := by kernel_rfl
  f11 := Try.func30.trans (congrArg some (by kernel_rfl))
  f17 := Try.func35.trans (congrArg some (by kernel_rfl))
  f18 := Try.func36.trans (congrArg some (by kernel_rfl))
  f31 := Try.func37.trans (congrArg some (by kernel_rfl))
  f32 := Try.func38.trans (congrArg some (by kernel_rfl))
  f33 := Try.func39.trans (congrArg some (by kernel_rfl))
  f34 := Try.func40.trans (congrArg some (by kernel_rfl))
  f35 := Try.func41.trans (congrArg some (by kernel_rfl))
  f36 := Try.func42.trans (congrArg some (by kernel_rfl))
  f37 := Try.func43.trans (congrArg some (by kernel_rfl))
  f38 := Try.func44.trans (congrArg some (by kernel_rfl))
  f39 := Try.func45.trans (congrArg some (by kernel_rfl))
  f40 := Try.func46.trans (congrArg some (by kernel_rfl))
  f43 := Try.func47.trans (congrArg some (by kernel_rfl))
  f44 := Try.func48.trans (congrArg some (by kernel_rfl))
  f45 := Try.func49.trans (congrArg some (by kernel_rfl))
  f46 := Try.func50.trans (congrArg some (by kernel_rfl))
  f47 := Try.func51.trans (congrArg some (by kernel_rfl))
  f50 := Try.func52.trans (congrArg some (by kernel_rfl))
  t0 := Try.underlying0
  a0 := Try.isAgg0
  z0 := Try.sizeOf0
  v0 := Try.zeroValue0
  i0 := by kernel_rfl
  t3 := Try.underlying3
  a3 := Try.isAgg3
  z3 := Try.sizeOf3
  v3 := Try.zeroValue3
  i3 := by kernel_rfl
  t4 := Try.underlying4
  a4 := Try.isAgg4
  z4 := Try.sizeOf4
  v4 := Try.zeroValue4
  i4 := by kernel_rfl
  t5 := Try.underlying5
  a5 := Try.isAgg5
  z5 := Try.sizeOf5
  v5 := Try.zeroValue5
  i5 := by kernel_rfl
  t9 := Try.underlying9
  a9 := Try.isAgg9
  z9 := Try.sizeOf9
  v9 := Try.zeroValue9
  i9 := by kernel_rfl
  t26 := Try.underlying74
  a26 := Try.isAgg74
  z26 := Try.sizeOf74
  v26 := Try.zeroValue74
  i26 := by kernel_rfl
  t38 := Try.underlying77
  a38 := Try.isAgg77
  z38 := Try.sizeOf77
  v38 := Try.zeroValue77
  i38 := by kernel_rfl
  t43 := Try.underlying62
  a43 := Try.isAgg62
  z43 := Try.sizeOf62
  v43 := Try.zeroValue62
  i43 := by kernel_rfl
  t45 := Try.underlying61
  a45 := Try.isAgg61
  z45 := Try.sizeOf61
  v45 := Try.zeroValue61
  i45 := by kernel_rfl
  t47 := Try.underlying58
  a47 := Try.isAgg58
  z47 := Try.sizeOf58
  v47 := Try.zeroValue58
  i47 := by kernel_rfl
  t56 := Try.underlying66
  a56 := Try.isAgg66
  z56 := Try.sizeOf66
  v56 := Try.zeroValue66
  i56 := by kernel_rfl
  t58 := Try.underlying68
  a58 := Try.isAgg68
  z58 := Try.sizeOf68
  v58 := Try.zeroValue68
  i58 := by kernel_rfl
  t60 := Try.underlying70
  a60 := Try.isAgg70
  z60 := Try.sizeOf70
  v60 := Try.zeroValue70
  i60 := by kernel_rfl
  t61 := Try.underlying71
  a61 := Try.isAgg71
  z61 := Try.sizeOf71
  v61 := Try.zeroValue71
  i61 := by kernel_rfl
  t65 := Try.underlying49
  a65 := Try.isAgg49
  z65 := Try.sizeOf49
  v65 := Try.zeroValue49
  i65 := by kernel_rfl
  t67 := Try.underlying78
  a67 := Try.isAgg78
  z67 := Try.sizeOf78
  v67 := Try.zeroValue78
  i67 := by kernel_rfl
  t71 := Try.underlying82
  a71 := Try.isAgg82
  z71 := Try.sizeOf82
  v71 := Try.zeroValue82
  i71 := by kernel_rfl
  t73 := Try.underlying84
  a73 := Try.isAgg84
  z73 := Try.sizeOf84
  v73 := Try.zeroValue84
  i73 := by kernel_rfl
  t74 := Try.underlying85
  a74 := Try.isAgg85
  z74 := Try.sizeOf85
  v74 := Try.zeroValue85
  i74 := by kernel_rfl }
open Go.RowKit Go.Lib Go.Sort in
theorem Try.sort_Sort_tiny {α : Type} [Inhabited α] (T : TypeId) (rv : Value) (gn : Nat) (rN : Reaches Try.prog T rv "Len" gn) (n : Nat) (hn : n ≤ 1) (w : World) (hlen : LenM Try.prog gn rv n w) :
    Calls Try.prog 30 #[.iface T rv] w fun e w' => e = .returned (.tuple #[]) ∧ ∃ q, w' = w.drewN q := Any.sort_Sort_tiny Try.laysGt11 T rv gn rN n hn w hlen
open Go.RowKit Go.Lib Go.Sort in
/-- **sort.Sort, IN THE DOCUMENTATION's OWN TERMS ("Sort sorts data in ascending order as determined by the Less method. .. The sort is not guaranteed to be stable"): A PERMUTATION OF WHAT THE ROW HELD, SORTED BY 'lt'.** (LAID: no walk: one application.) -/
theorem Try.sort_Sort_sorted {α : Type} [Inhabited α] (T : TypeId) (rv : Value) (gn gl gs : Nat) (rN : Reaches Try.prog T rv "Len" gn) (rL : Reaches Try.prog T rv "Less" gl) (rS : Reaches Try.prog T rv "Swap" gs) (enc : α → Value) (lt : α → α → Bool) (hO : SWO lt) (blk off : Nat) (d : Array α) (h2 : 2 ≤ d.size) (hsz : d.size < 4611686018427387904) (w : World) (hlen : LenM Try.prog gn rv d.size w) (hless : LessM Try.prog gl rv enc lt blk off d.size w) (hswap : SwapM Try.prog gs rv enc blk off d.size) (hH : Holds enc w blk off d) (hblk : blk < w.heap.size) :
    Calls Try.prog 30 #[.iface T rv] w fun e w' => e = .returned (.tuple #[]) ∧ ∃ d' n os, PermIn 0 d.size d d' ∧ SortedIn lt 0 d.size d' ∧ w' = grow (putRow enc (Sort.ahead w n) blk off d') os := Any.sort_Sort_sorted Try.laysGt11 T rv gn gl gs rN rL rS enc lt hO blk off d h2 hsz w hlen hless hswap hH hblk
end Go.Proofs
