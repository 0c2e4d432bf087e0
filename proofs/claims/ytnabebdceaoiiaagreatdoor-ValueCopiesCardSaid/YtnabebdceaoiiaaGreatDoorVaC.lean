/- Values: a kid's type; what is checked of a value. -/
import Derived.Test.YtnabebdceaoiiaaGreatDoorVaB
namespace Go.Proofs.YtnabebdceaoiiaaGreatDoor
open Go Go.Ev
set_option linter.unusedVariables false
set_option linter.unusedSimpArgs false
set_option maxHeartbeats 1000000

theorem o6 (a : Nat) : ((a : Nat) : Int).tmod 2 = ((a % 2 : Nat) : Int) := rfl
/-- the type of a value's i-th kid -/
def kidT (t : Ty) (vi : Int) (i : Nat) : Option Ty :=
  if t.kind == 10 then t.kids[0]? else if t.kind == 11 then t.kids[i % 2]? else if t.kind == 13 then (if decide (vi < 0) then none else t.kids[vi.toNat]?) else t.kids[i]?
mutual
/-- numbers are of 64 bits, texts and kids not too many -/
def okV : Va → Prop
  | .mk _ i _ b ks => inI i ∧ b.length < 2 ^ 63 ∧ ks.length < 2 ^ 63 ∧ okVs ks
def okVs : List Va → Prop
  | [] => True
  | k :: r => okV k ∧ okVs r
end
theorem okV_eq (v : Va) : okV v ↔ inI v.i ∧ v.b.length < 2 ^ 63 ∧ v.kids.length < 2 ^ 63 ∧ okVs v.kids := by
  cases v with
  | mk nl i n b ks => rw [okV]; rfl
theorem okVs_mem : ∀ {l : List Va} {k : Va}, okVs l → k ∈ l → okV k
  | x :: l, k, h, hk => by
    rw [okVs] at h
    rcases List.mem_cons.1 hk with e | e
    · rw [e]; exact h.1
    · exact okVs_mem h.2 e
end Go.Proofs.YtnabebdceaoiiaaGreatDoor
