/- Types: a tree's columns, by the program. -/
import Derived.Test.YtnabebdceaoiiaaGreatDoorTyD
namespace Go.Proofs.YtnabebdceaoiiaaGreatDoor
open Go Go.Ev
set_option linter.unusedVariables false
set_option linter.unusedSimpArgs false
set_option maxHeartbeats 4000000

def nodT (t : Ty) (ks : List Nat) (parent deep : Int) : D := .agg [.int .i64 t.kind, .sl (ks.map intN), .sl (t.names.map D.str), .int .i64 t.len, .int .i64 t.prec, .int .i64 t.scale, .int .i64 parent, .int .i64 deep]
mutual
def flatT (i : Nat) (parent deep : Int) : Ty → List D
  | .mk k ns ks l p s => nodT (.mk k ns ks l p s) (kidAt (i + 1) ks) parent deep :: xb (i + 1) i (deep + 1) ks
def xb (i : Nat) (parent : Nat) (deep : Int) : List Ty → List D
  | [] => []
  | k :: r => flatT i parent deep k ++ xb (i + k.size) parent deep r
end
mutual
theorem flatT_len : ∀ (t : Ty) (i : Nat) (parent deep : Int), (flatT i parent deep t).length = t.size
  | .mk k ns ks l p s, i, parent, deep => by rw [flatT, List.length_cons, flatTs_len ks, Ty.size]; omega
theorem flatTs_len : ∀ (ks : List Ty) (i parent : Nat) (deep : Int), (xb i parent deep ks).length = Ty.sizes ks
  | [], _, _, _ => by rw [xb, Ty.sizes]; rfl
  | k :: r, i, parent, deep => by rw [xb, List.length_append, flatT_len k, flatTs_len r, Ty.sizes]
end
end Go.Proofs.YtnabebdceaoiiaaGreatDoor
