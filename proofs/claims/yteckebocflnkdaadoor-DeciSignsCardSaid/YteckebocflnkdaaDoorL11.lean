/- The evaluator of Go code and its proofs, part 11. Own work. -/
import Derived.Test.YteckebocflnkdaaDoorL10
set_option linter.unusedVariables false
set_option linter.unusedSimpArgs false
set_option linter.unusedSectionVars false
/-! EvMore -/
/- More rules. Own work. -/
namespace Go.Ev
open Go
variable {cfg : Cfg} {orc : Orc} {dep : Nat}

def s2bV (k : Nat) (own : Bool) : V → Option (List (Loc × V))
  | .d (.str b) => if b.length ≤ mostEls then some [(.slot k, if own then .own true 1 (b.map byteD) else .d (.sl (b.map byteD)))] else none
  | _ => none
@[go_sem] theorem U_s2b (s : Get) (k : Nat) (own : Bool) (x : IOpd) : stepU cfg orc dep s ⟨some k, none, .s2b own x⟩ = (val cfg s x).bind (s2bV k own) := by
  show evOp cfg dep s (some k) (.s2b own x) = _
  simp only [evOp]
  cases val cfg s x with
  | none => rfl
  | some v =>
    cases v with
    | d y => cases y <;> rfl
    | _ => rfl
@[go_sem] theorem s2bV_f (k : Nat) (b : List UInt8) (h : b.length ≤ 1000000000) : s2bV k false (.d (.str b)) = some [(.slot k, .d (.sl (b.map byteD)))] := by
  have := most_of h
  simp [s2bV, this]
@[go_sem] theorem s2bV_t (k : Nat) (b : List UInt8) (h : b.length ≤ 1000000000) : s2bV k true (.d (.str b)) = some [(.slot k, .own true 1 (b.map byteD))] := by
  have := most_of h
  simp [s2bV, this]
def cvStrV (k : Nat) : V → Option (List (Loc × V))
  | .d (.str b) => some [(.slot k, .d (.str b))]
  | _ => none
@[go_sem] theorem U_cvStr (s : Get) (k : Nat) (x : IOpd) : stepU cfg orc dep s ⟨some k, none, .cvStr x⟩ = (val cfg s x).bind (cvStrV k) := by
  show evOp cfg dep s (some k) (.cvStr x) = _
  simp only [evOp]
  cases val cfg s x with
  | none => rfl
  | some v =>
    cases v with
    | d y => cases y <;> rfl
    | _ => rfl
@[go_sem] theorem cvStrV_s (k : Nat) (b : List UInt8) : cvStrV k (.d (.str b)) = some [(.slot k, .d (.str b))] := rfl
def cvBV (k j : Nat) (own : Bool) : V → Option (List (Loc × V))
  | .own _ z es => some ((.slot k, if own then .own true z es else .d (.sl es)) :: [(.slot j, .junk)])
  | _ => none
@[go_sem] theorem U_cvB (s : Get) (k j : Nat) (own : Bool) : stepU cfg orc dep s ⟨some k, none, .cvB own (.t j)⟩ = (s (.slot j)).bind (cvBV k j own) := by
  show evOp cfg dep s (some k) (.cvB own (.t j)) = _
  simp only [evOp, val]
  cases s (.slot j) with
  | none => rfl
  | some v => cases v <;> rfl
@[go_sem] theorem cvBV_t (k j z : Nat) (nw : Bool) (es : List D) : cvBV k j true (.own nw z es) = some [(.slot k, .own true z es), (.slot j, .junk)] := rfl
@[go_sem] theorem cvBV_f (k j z : Nat) (nw : Bool) (es : List D) : cvBV k j false (.own nw z es) = some [(.slot k, .d (.sl es)), (.slot j, .junk)] := rfl
@[go_sem] theorem nlt0 (n : Nat) : ((n : Int) < 0) = False := by simp
@[go_sem] theorem nlt0' (n : Nat) : decide ((n : Int) < 0) = false := by simp
@[go_sem] theorem nc0 : ((0 : Nat) : Int) = 0 := rfl
@[go_sem] theorem nc1 : ((1 : Nat) : Int) = 1 := rfl
end Go.Ev
