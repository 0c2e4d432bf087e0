/-
  DERIVED: THE SHELF's CONTRACTS AT THIS DUMP, IN PLAIN WORDS (tools/lay-plain.mjs out of 'TryzShelf.lean', which tools/lay-shelf.mjs wrote): THE SAME DECLARATIONS UNDER THE SAME NAMES: 'import', 'namespace', 'open', 'def', 'theorem' AND NOTHING ELSE: no command of the shelf's: FOR A HAND-IN. Each laying: the table of numbers ('.._ren') and one theorem, a field a fact of the dump's own or the kernel's comparison; each contract: ONE APPLICATION.
-/
import Derived.Shelf.Strings.OnBuilder
import Derived.Shelf.Strconv.Itoa4
import Derived.Ground.Names2Prog
import Derived.Ground.SlgnProg
import Derived.Test.YtnabebdceaoiiaaGreatDoorProg
namespace Go.Proofs
open Go.Shelf
def Tryz.lays156_ren : Go.Shelf.Ren := ⟨fun | 156 => 63 | 165 => 85 | 166 => 86 | 169 => 87 | 240 => 104 | 241 => 105 | 276 => 122 | 277 => 123 | n => n, fun | 31 => 22 | 9 => 9 | 3 => 3 | 4 => 4 | 0 => 0 | 20 => 20 | 72 => 106 | 76 => 110 | 70 => 104 | 37 => 26 | 75 => 109 | 127 => 128 | 164 => 148 | 5 => 5 | 80 => 112 | n => n, fun | n => n⟩
theorem Tryz.lays156 : Go.Proofs.Lays.n156 Tryz.prog Tryz.lays156_ren := {
  mixed := by kernel_rfl
  f156 := Tryz.func63.trans (congrArg some (by kernel_rfl))
  f165 := Tryz.func85.trans (congrArg some (by kernel_rfl))
  f166 := Tryz.func86.trans (congrArg some (by kernel_rfl))
  f169 := Tryz.func87.trans (congrArg some (by kernel_rfl))
  f240 := Tryz.func104.trans (congrArg some (by kernel_rfl))
  f241 := Tryz.func105.trans (congrArg some (by kernel_rfl))
  f276 := Tryz.func122.trans (congrArg some (by kernel_rfl))
  f277 := Tryz.func123.trans (congrArg some (by kernel_rfl))
  t0 := Tryz.underlying0
  a0 := Tryz.isAgg0
  z0 := Tryz.sizeOf0
  v0 := Tryz.zeroValue0
  t3 := Tryz.underlying3
  a3 := Tryz.isAgg3
  z3 := Tryz.sizeOf3
  v3 := Tryz.zeroValue3
  t4 := Tryz.underlying4
  a4 := Tryz.isAgg4
  z4 := Tryz.sizeOf4
  v4 := Tryz.zeroValue4
  t9 := Tryz.underlying9
  a9 := Tryz.isAgg9
  z9 := Tryz.sizeOf9
  v9 := Tryz.zeroValue9
  t20 := Tryz.underlying20
  a20 := Tryz.isAgg20
  z20 := Tryz.sizeOf20
  v20 := Tryz.zeroValue20
  t31 := Tryz.underlying22
  a31 := Tryz.isAgg22
  z31 := Tryz.sizeOf22
  v31 := Tryz.zeroValue22
  t37 := Tryz.underlying26
  a37 := Tryz.isAgg26
  z37 := Tryz.sizeOf26
  v37 := Tryz.zeroValue26
  t70 := Tryz.underlying104
  a70 := Tryz.isAgg104
  z70 := Tryz.sizeOf104
  v70 := Tryz.zeroValue104
  t72 := Tryz.underlying106
  a72 := Tryz.isAgg106
  z72 := Tryz.sizeOf106
  v72 := Tryz.zeroValue106
  t75 := Tryz.underlying109
  a75 := Tryz.isAgg109
  z75 := Tryz.sizeOf109
  v75 := Tryz.zeroValue109
  t76 := Tryz.underlying110
  a76 := Tryz.isAgg110
  z76 := Tryz.sizeOf110
  v76 := Tryz.zeroValue110
  t127 := Tryz.underlying128
  a127 := Tryz.isAgg128
  z127 := Tryz.sizeOf128
  v127 := Tryz.zeroValue128
  t164 := Tryz.underlying148
  a164 := Tryz.isAgg148
  z164 := Tryz.sizeOf148
  v164 := Tryz.zeroValue148 }
theorem Tryz.Builder_Extra_156 : Builder.Extra Tryz.prog Tryz.lays156_ren := {
  sizeBuilder := by kernel_rfl
  liesBuilder := by kernel_rfl
  t5 := Tryz.underlying5
  a5 := Tryz.isAgg5
  z5 := Tryz.sizeOf5
  v5 := Tryz.zeroValue5
  infoByte := by kernel_rfl
  cellsByte := by kernel_rfl
  sizeByte := by kernel_rfl
  neB5 := by decide }
open Go.RowKit in
/-- No element: the empty string; the world is as it was. (Whatever the slice's address and capacity: a nil slice too.) (LAID: no walk: one application.) -/
theorem Tryz.strings_Join_none (a : Option Addr) (c : Nat) (sep : ByteArray) (w : World) :
    Calls Tryz.prog 63 #[.slice a 0 c, .string sep] w fun e w' => e = .returned (.string ⟨#[]⟩) ∧ w' = w := Any.strings_Join_none Tryz.lays156 Tryz.Builder_Extra_156 a c sep w
open Go.RowKit in
/-- strings.Join: "Join concatenates the elements of its first argument to create a single string. The separator string sep is placed between elements in the resulting string.": HOWEVER MANY ELEMENTS. Below the heap's end the world is as it was. (LAID: no walk: one application.) -/
theorem Tryz.strings_Join (bk o c : Nat) (xs : List ByteArray) (sep : ByteArray) (w : World) (hcells : ∀ (j : Nat) x, xs[j]? = some x → w.cell? ⟨bk, o + j, none⟩ = some (.string x)) (hbk : bk < w.heap.size) (hN : xs.length ≤ 140737488355328) (hcap : xs.length ≤ c) (hlen : (Lib.join (xs.map (·.data.toList)) sep.data.toList).length ≤ 140737488355328) :
    Calls Tryz.prog 63 #[.slice (some ⟨bk, o, none⟩) xs.length c, .string sep] w fun e w' => e = .returned (.string ⟨(Lib.join (xs.map (·.data.toList)) sep.data.toList).toArray⟩) ∧ Below w.heap.size w w' := Any.strings_Join Tryz.lays156 Tryz.Builder_Extra_156 bk o c xs sep w hcells hbk hN hcap hlen
def Tryz.laysM173_ren : Go.Shelf.Ren := ⟨fun | 173 => 62 | 246 => 84 | 283 => 100 | 284 => 101 | 285 => 102 | 286 => 103 | 129 => 118 | 317 => 117 | 318 => 119 | 319 => 120 | 320 => 121 | 337 => 135 | 338 => 136 | n => n, fun | 2 => 2 | 3 => 3 | 9 => 9 | 4 => 4 | 171 => 123 | 0 => 0 | 53 => 114 | 37 => 26 | 5 => 5 | 173 => 126 | 212 => 144 | 51 => 145 | 20 => 20 | 213 => 146 | 46 => 55 | 232 => 164 | 233 => 165 | n => n, fun | 17 => 1 | 18 => 2 | 19 => 3 | n => n⟩
theorem Tryz.laysM173 : Go.Proofs.LaysM.n173 Tryz.prog Tryz.laysM173_ren := {
  mixed := by kernel_rfl
  f129 := Tryz.func118.trans (congrArg some (by kernel_rfl))
  f173 := Tryz.func62.trans (congrArg some (by kernel_rfl))
  f246 := Tryz.func84.trans (congrArg some (by kernel_rfl))
  f283 := Tryz.func100.trans (congrArg some (by kernel_rfl))
  f284 := Tryz.func101.trans (congrArg some (by kernel_rfl))
  f285 := Tryz.func102.trans (congrArg some (by kernel_rfl))
  f286 := Tryz.func103.trans (congrArg some (by kernel_rfl))
  f317 := Tryz.func117.trans (congrArg some (by kernel_rfl))
  f318 := Tryz.func119.trans (congrArg some (by kernel_rfl))
  f319 := Tryz.func120.trans (congrArg some (by kernel_rfl))
  f320 := Tryz.func121.trans (congrArg some (by kernel_rfl))
  f337 := Tryz.func135.trans (congrArg some (by kernel_rfl))
  f338 := Tryz.func136.trans (congrArg some (by kernel_rfl))
  t0 := Tryz.underlying0
  a0 := Tryz.isAgg0
  z0 := Tryz.sizeOf0
  v0 := Tryz.zeroValue0
  t2 := Tryz.underlying2
  a2 := Tryz.isAgg2
  z2 := Tryz.sizeOf2
  v2 := Tryz.zeroValue2
  t3 := Tryz.underlying3
  a3 := Tryz.isAgg3
  z3 := Tryz.sizeOf3
  v3 := Tryz.zeroValue3
  t4 := Tryz.underlying4
  a4 := Tryz.isAgg4
  z4 := Tryz.sizeOf4
  v4 := Tryz.zeroValue4
  t5 := Tryz.underlying5
  a5 := Tryz.isAgg5
  z5 := Tryz.sizeOf5
  v5 := Tryz.zeroValue5
  t9 := Tryz.underlying9
  a9 := Tryz.isAgg9
  z9 := Tryz.sizeOf9
  v9 := Tryz.zeroValue9
  t20 := Tryz.underlying20
  a20 := Tryz.isAgg20
  z20 := Tryz.sizeOf20
  v20 := Tryz.zeroValue20
  t37 := Tryz.underlying26
  a37 := Tryz.isAgg26
  z37 := Tryz.sizeOf26
  v37 := Tryz.zeroValue26
  t46 := Tryz.underlying55
  a46 := Tryz.isAgg55
  z46 := Tryz.sizeOf55
  v46 := Tryz.zeroValue55
  t51 := Tryz.underlying145
  a51 := Tryz.isAgg145
  z51 := Tryz.sizeOf145
  v51 := Tryz.zeroValue145
  t53 := Tryz.underlying114
  a53 := Tryz.isAgg114
  z53 := Tryz.sizeOf114
  v53 := Tryz.zeroValue114
  t171 := Tryz.underlying123
  a171 := Tryz.isAgg123
  z171 := Tryz.sizeOf123
  v171 := Tryz.zeroValue123
  t173 := Tryz.underlying126
  a173 := Tryz.isAgg126
  z173 := Tryz.sizeOf126
  v173 := Tryz.zeroValue126
  t212 := Tryz.underlying144
  a212 := Tryz.isAgg144
  z212 := Tryz.sizeOf144
  v212 := Tryz.zeroValue144
  t213 := Tryz.underlying146
  a213 := Tryz.isAgg146
  z213 := Tryz.sizeOf146
  t232 := Tryz.underlying164
  a232 := Tryz.isAgg164
  z232 := Tryz.sizeOf164
  v232 := Tryz.zeroValue164
  t233 := Tryz.underlying165
  a233 := Tryz.isAgg165
  z233 := Tryz.sizeOf165
  v233 := Tryz.zeroValue165
  g17 := by kernel_rfl
  g18 := by kernel_rfl
  g19 := by kernel_rfl
  i0 := by kernel_rfl
  i2 := by kernel_rfl
  i3 := by kernel_rfl
  i4 := by kernel_rfl
  i5 := by kernel_rfl
  i9 := by kernel_rfl
  i20 := by kernel_rfl
  i37 := by kernel_rfl
  i46 := by kernel_rfl
  i51 := by kernel_rfl
  i53 := by kernel_rfl
  i171 := by kernel_rfl
  i173 := by kernel_rfl
  i212 := by kernel_rfl
  i232 := by kernel_rfl
  i233 := by kernel_rfl
  m17 := by kernel_rfl
  m18 := by kernel_rfl
  m19 := by kernel_rfl }
open Go.RowKit Go.Sort Go.Lib in
/-- strconv.FormatInt: "FormatInt returns the string representation of i in the given base": AT BASE 10: i's decimal numeral, for every int64. (LAID: no walk: one application.) -/
theorem Tryz.strconv_FormatInt_10 (n : Int) (h0 : -9223372036854775808 ≤ n) (h1 : n ≤ 9223372036854775807) (w : World) (htab : Lib.TabIs Tryz.prog w "internal/strconv.uint64pow10" .u64 Lib.pow10Tab) :
    Calls Tryz.prog 62 #[.int .i64 n, .int .i64 10] w fun e w' => e = .returned (.string ⟨(Lib.itoa n).toArray⟩) ∧ ∃ k os, w' = grow (w.drewN k) os := Any.strconv_FormatInt_10 Tryz.laysM173 n h0 h1 w htab
end Go.Proofs
