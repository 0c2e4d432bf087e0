/-
  NARROWER THAN 'FOR EVERY INPUT', by the rows' own cells (each row's printed sentence says how): ColumnBack: loops · ColumnSame: loops.
  DERIVED. THE GIVEN ROWS OF THIS SEAT. 5 by the template 'for every input the law returns true; each argument reads behind the call as it read before'; 0 by the template 'total and deterministic' (their statements: YtkdiccgfbfbjlaaGreatTotals.lean).
  GIVEN WITH THE SEED: the statements are not yours to turn. If you find one false, say at which input.
  Laid BY PROGRAM, IN A SANDBOX (cutbox-rows.mjs): the forced cells as the released guide's own fill.sh prints them over the translation fb30308332855875… (all of the seat's roots in one cut). By AI agents, Wed Nov 11 2026. No macro, syntax, notation, axiom, sorry.
-/
import Derived.Test.YtkdiccgfbfbjlaaGreatChecked
import GoSem.Claim
import GoSem.ClaimJoined
import GoSem.ClaimMapViews
import Derived.JoinedTies
import Derived.KernelRfl
namespace Go.Proofs.YtkdiccgfbfbjlaaGreat
/- THE CELL 'sum', in the pinned program and in every row, IS THE sha256 OF THE DUMP (.gsa) THAT YtkdiccgfbfbjlaaGreatProg.lean LOADS. Nothing in Lean hashes anything: it is a label: what it is worth is what the hold of that sum in a sandbox is worth. -/
noncomputable def Tryz.pinned : Pinned := { name := "ytkdiccgfbfbjlaagreat", sum := "fb303083328558752b3c54232b183660755c8241917615cd0261a33474dae508", checked := Tryz.checked }
namespace Rows
def none {H : Type} : Left H := { results := [], args := [] }

/-- 'ingotlaw18.ColumnBack': WHATEVER THE INPUT: true; the input reads as it did. -/
def columnBackSpec : ChangeSpec := { name := "columnBack", fn := fun _ => fun
  | [d1, d2, d3] => { results := [.lit (.bool true)], args := [d1, d2, d3] }
  | _ => none }
def columnBackRow : OpenClaim := { program := "ytkdiccgfbfbjlaagreat", sum := "fb303083328558752b3c54232b183660755c8241917615cd0261a33474dae508", func := "ingot/ingotlaw18.ColumnBack", spec := "columnBack", inPlace := ["internal/bytealg.MakeNoZero", "internal/bytealg.Compare"], unfollowed := true, recurses := true, loops := true, apart := false }
def ColumnBackSaid : Prop := columnBackRow.holds Tryz.pinned (OpenSpec.ofChange columnBackSpec)

/-- ITS FALSE NEIGHBOUR: 'it returns false'. Refute it at one input. -/
def columnBackWrong : ChangeSpec := { name := "columnBack", fn := fun _ => fun
  | [d1, d2, d3] => { results := [.lit (.bool false)], args := [d1, d2, d3] }
  | _ => none }
def ColumnBackWrongFalsely : Prop := columnBackRow.holds Tryz.pinned (OpenSpec.ofChange columnBackWrong)

/-- 'ingotlaw18.ColumnSame': WHATEVER THE INPUT: true; the input reads as it did. -/
def columnSameSpec : ChangeSpec := { name := "columnSame", fn := fun _ => fun
  | [d1, d2, d3] => { results := [.lit (.bool true)], args := [d1, d2, d3] }
  | _ => none }
def columnSameRow : OpenClaim := { program := "ytkdiccgfbfbjlaagreat", sum := "fb303083328558752b3c54232b183660755c8241917615cd0261a33474dae508", func := "ingot/ingotlaw18.ColumnSame", spec := "columnSame", inPlace := ["internal/bytealg.MakeNoZero", "internal/bytealg.Compare"], unfollowed := true, recurses := true, loops := true, apart := false }
def ColumnSameSaid : Prop := columnSameRow.holds Tryz.pinned (OpenSpec.ofChange columnSameSpec)

/-- ITS FALSE NEIGHBOUR: 'it returns false'. Refute it at one input. -/
def columnSameWrong : ChangeSpec := { name := "columnSame", fn := fun _ => fun
  | [d1, d2, d3] => { results := [.lit (.bool false)], args := [d1, d2, d3] }
  | _ => none }
def ColumnSameWrongFalsely : Prop := columnSameRow.holds Tryz.pinned (OpenSpec.ofChange columnSameWrong)

/-- 'ingotlaw18.ColumnChecks': WHATEVER THE INPUT: true; the input reads as it did. -/
def columnChecksSpec : ChangeSpec := { name := "columnChecks", fn := fun _ => fun
  | [d] => { results := [.lit (.bool true)], args := [d] }
  | _ => none }
def columnChecksRow : OpenClaim := { program := "ytkdiccgfbfbjlaagreat", sum := "fb303083328558752b3c54232b183660755c8241917615cd0261a33474dae508", func := "ingot/ingotlaw18.ColumnChecks", spec := "columnChecks", inPlace := ["internal/bytealg.MakeNoZero", "internal/bytealg.Compare"], unfollowed := true, recurses := true, apart := false }
def ColumnChecksSaid : Prop := columnChecksRow.holds Tryz.pinned (OpenSpec.ofChange columnChecksSpec)

/-- ITS FALSE NEIGHBOUR: 'it returns false'. Refute it at one input. -/
def columnChecksWrong : ChangeSpec := { name := "columnChecks", fn := fun _ => fun
  | [d] => { results := [.lit (.bool false)], args := [d] }
  | _ => none }
def ColumnChecksWrongFalsely : Prop := columnChecksRow.holds Tryz.pinned (OpenSpec.ofChange columnChecksWrong)

/-- 'ingotlaw18.ColumnPresent': WHATEVER THE INPUT: true; the input reads as it did. -/
def columnPresentSpec : ChangeSpec := { name := "columnPresent", fn := fun _ => fun
  | [d1, d2] => { results := [.lit (.bool true)], args := [d1, d2] }
  | _ => none }
def columnPresentRow : OpenClaim := { program := "ytkdiccgfbfbjlaagreat", sum := "fb303083328558752b3c54232b183660755c8241917615cd0261a33474dae508", func := "ingot/ingotlaw18.ColumnPresent", spec := "columnPresent", inPlace := ["internal/bytealg.MakeNoZero", "internal/bytealg.Compare"], unfollowed := true, recurses := true, apart := false }
def ColumnPresentSaid : Prop := columnPresentRow.holds Tryz.pinned (OpenSpec.ofChange columnPresentSpec)

/-- ITS FALSE NEIGHBOUR: 'it returns false'. Refute it at one input. -/
def columnPresentWrong : ChangeSpec := { name := "columnPresent", fn := fun _ => fun
  | [d1, d2] => { results := [.lit (.bool false)], args := [d1, d2] }
  | _ => none }
def ColumnPresentWrongFalsely : Prop := columnPresentRow.holds Tryz.pinned (OpenSpec.ofChange columnPresentWrong)

/-- 'ingotlaw18.ColumnWords': WHATEVER THE INPUT: true; the input reads as it did. -/
def columnWordsSpec : ChangeSpec := { name := "columnWords", fn := fun _ => fun
  | [d1, d2] => { results := [.lit (.bool true)], args := [d1, d2] }
  | _ => none }
def columnWordsRow : OpenClaim := { program := "ytkdiccgfbfbjlaagreat", sum := "fb303083328558752b3c54232b183660755c8241917615cd0261a33474dae508", func := "ingot/ingotlaw18.ColumnWords", spec := "columnWords", inPlace := ["internal/bytealg.MakeNoZero", "internal/bytealg.Compare"], unfollowed := true, recurses := true, apart := false }
def ColumnWordsSaid : Prop := columnWordsRow.holds Tryz.pinned (OpenSpec.ofChange columnWordsSpec)

/-- ITS FALSE NEIGHBOUR: 'it returns false'. Refute it at one input. -/
def columnWordsWrong : ChangeSpec := { name := "columnWords", fn := fun _ => fun
  | [d1, d2] => { results := [.lit (.bool false)], args := [d1, d2] }
  | _ => none }
def ColumnWordsWrongFalsely : Prop := columnWordsRow.holds Tryz.pinned (OpenSpec.ofChange columnWordsWrong)

/- THE SECOND FORM. 'bulk': how many values and letters a reading holds, each counted each time it is reached (what is shared counts as often as it is met; a slice's spare places count too). A statement '..UptoSaid' is the law's where the arguments, and the package variables that the reading takes, are together of bulk at most 1048576: NARROWER than '..Said'. Prove '..Said' where nothing that the law and all that it calls make is longer than what came in: it says more and counts as full. Else prove '..UptoSaid'. A law counts once. -/
mutual
def uptoBulk {H : Type} : DataW H → Nat
  | .lit (.string bytes) => bytes.length + 1
  | .lit _ => 1
  | .nil => 1
  | .ptr d => uptoBulk d + 1
  | .slice elems spare => uptoBulkAll elems + uptoBulkAll spare + 1
  | .agg parts => uptoBulkAll parts + 1
  | .iface _ d => uptoBulk d + 1
  | .map entries => uptoBulkEntries entries + 1
  | .held _ => 1
def uptoBulkAll {H : Type} : List (DataW H) → Nat
  | [] => 0
  | d :: r => uptoBulk d + uptoBulkAll r
def uptoBulkEntries {H : Type} : List (Lit × DataW H) → Nat
  | [] => 0
  | x :: r => uptoBulkEntry x + uptoBulkEntries r
def uptoBulkEntry {H : Type} : Lit × DataW H → Nat
  | (.string bytes, d) => bytes.length + uptoBulk d + 1
  | (_, d) => uptoBulk d + 1
 end
def uptoSmall : (H : Type) → List (DataW H) → Bool := fun _ ds => decide (uptoBulkAll ds ≤ 1048576)
def OpenSpec.upto (s : _root_.Go.ChangeSpec) : _root_.Go.OpenSpec := { _root_.Go.OpenSpec.ofChange s with cond := some uptoSmall }

/-- 'ingotlaw18.ColumnBack', WHERE WHAT IT READS IS OF BULK AT MOST 1048576: true; the input reads as it did. -/
def columnBackUptoRow : OpenClaim := { program := "ytkdiccgfbfbjlaagreat", sum := "fb303083328558752b3c54232b183660755c8241917615cd0261a33474dae508", func := "ingot/ingotlaw18.ColumnBack", spec := "columnBack", inPlace := ["internal/bytealg.MakeNoZero", "internal/bytealg.Compare"], unfollowed := true, recurses := true, loops := true, apart := false, narrowed := true }
def ColumnBackUptoSaid : Prop := columnBackUptoRow.holds Tryz.pinned (OpenSpec.upto columnBackSpec)

/-- 'ingotlaw18.ColumnSame', WHERE WHAT IT READS IS OF BULK AT MOST 1048576: true; the input reads as it did. -/
def columnSameUptoRow : OpenClaim := { program := "ytkdiccgfbfbjlaagreat", sum := "fb303083328558752b3c54232b183660755c8241917615cd0261a33474dae508", func := "ingot/ingotlaw18.ColumnSame", spec := "columnSame", inPlace := ["internal/bytealg.MakeNoZero", "internal/bytealg.Compare"], unfollowed := true, recurses := true, loops := true, apart := false, narrowed := true }
def ColumnSameUptoSaid : Prop := columnSameUptoRow.holds Tryz.pinned (OpenSpec.upto columnSameSpec)

/-- 'ingotlaw18.ColumnChecks', WHERE WHAT IT READS IS OF BULK AT MOST 1048576: true; the input reads as it did. -/
def columnChecksUptoRow : OpenClaim := { program := "ytkdiccgfbfbjlaagreat", sum := "fb303083328558752b3c54232b183660755c8241917615cd0261a33474dae508", func := "ingot/ingotlaw18.ColumnChecks", spec := "columnChecks", inPlace := ["internal/bytealg.MakeNoZero", "internal/bytealg.Compare"], unfollowed := true, recurses := true, apart := false, narrowed := true }
def ColumnChecksUptoSaid : Prop := columnChecksUptoRow.holds Tryz.pinned (OpenSpec.upto columnChecksSpec)

/-- 'ingotlaw18.ColumnPresent', WHERE WHAT IT READS IS OF BULK AT MOST 1048576: true; the input reads as it did. -/
def columnPresentUptoRow : OpenClaim := { program := "ytkdiccgfbfbjlaagreat", sum := "fb303083328558752b3c54232b183660755c8241917615cd0261a33474dae508", func := "ingot/ingotlaw18.ColumnPresent", spec := "columnPresent", inPlace := ["internal/bytealg.MakeNoZero", "internal/bytealg.Compare"], unfollowed := true, recurses := true, apart := false, narrowed := true }
def ColumnPresentUptoSaid : Prop := columnPresentUptoRow.holds Tryz.pinned (OpenSpec.upto columnPresentSpec)

/-- 'ingotlaw18.ColumnWords', WHERE WHAT IT READS IS OF BULK AT MOST 1048576: true; the input reads as it did. -/
def columnWordsUptoRow : OpenClaim := { program := "ytkdiccgfbfbjlaagreat", sum := "fb303083328558752b3c54232b183660755c8241917615cd0261a33474dae508", func := "ingot/ingotlaw18.ColumnWords", spec := "columnWords", inPlace := ["internal/bytealg.MakeNoZero", "internal/bytealg.Compare"], unfollowed := true, recurses := true, apart := false, narrowed := true }
def ColumnWordsUptoSaid : Prop := columnWordsUptoRow.holds Tryz.pinned (OpenSpec.upto columnWordsSpec)

end Rows
end Go.Proofs.YtkdiccgfbfbjlaaGreat
