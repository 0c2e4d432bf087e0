/- A footer's parts. -/
import Derived.Test.YtpnhljhciibfnaaGreatDoorPbF
import Derived.Test.YtpnhljhciibfnaaGreatDoorPbE
namespace Go.Proofs.YtpnhljhciibfnaaGreatDoor
open Go Go.Ev
set_option linter.unusedVariables false
set_option linter.unusedSimpArgs false
set_option maxHeartbeats 4000000

structure Parts where
  a : List (List Fld)
  b : List (List Fld)
  c : List (List Fld)
  e : List (List Fld)
  st : List (List UInt8)
def Parts.add (p : Parts) (f : Fld) : Parts :=
  if f.wire ≠ 2 then p else
  if f.num = 7 then { p with e := p.e ++ [(parseM f.b).1], st := p.st ++ [f.b] } else
  if f.num = 3 then { p with a := p.a ++ [(parseM f.b).1] } else
  if f.num = 4 then { p with b := p.b ++ [(parseM f.b).1] } else
  if f.num = 5 then { p with c := p.c ++ [(parseM f.b).1] } else p
def splM : List Fld → Parts → Parts
  | [], p => p
  | f :: r, p => splM r (p.add f)
def Parts.small (p : Parts) (n : Nat) : Prop := p.a.length ≤ n ∧ p.b.length ≤ n ∧ p.c.length ≤ n ∧ p.e.length ≤ n ∧ p.st.length ≤ n
def wantF (f : Fld) : Prop := f.wire = 2 → (f.num = 7 ∨ f.num = 3 ∨ f.num = 4 ∨ f.num = 5) → (parseM f.b).2 = 0
def noParts : Parts := ⟨[], [], [], [], []⟩
end Go.Proofs.YtpnhljhciibfnaaGreatDoor
