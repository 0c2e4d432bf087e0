/- A footer read: its tree of one column, what is known, the whole. -/
import Derived.Test.YtpnhljhciibfnaaGreatDoorFtC
namespace Go.Proofs.YtpnhljhciibfnaaGreatDoor
open Go Go.Ev
set_option linter.unusedVariables false
set_option linter.unusedSimpArgs false
set_option maxHeartbeats 4000000
set_option maxRecDepth 100000

abbrev i0 : D := .int .i64 0
theorem len8 (a b c d e f g h : D) : [a, b, c, d, e, f, g, h].length = 8 := rfl
theorem tk8 (a b c d e f g h : D) : List.take 8 [a, b, c, d, e, f, g, h] = [a, b, c, d, e, f, g, h] := rfl
/-- the facts on a footer that is read -/
structure FootOk (l : List UInt8) (fs : List Fld) (p : Parts) : Prop where
  len : l.length ≤ 1000000
  parse : parseM l = (fs, 0)
  want : ∀ f ∈ fs, wantF f
  parts : splM fs noParts = p
  n2 : uM fs 2 ≤ 262144
  n6 : uM fs 6 ≤ 262144
  n8 : uM fs 8 ≤ 262144
  stripes : p.a.length ≤ 1024
  stripe : ∀ l ∈ p.a, strOk l
  types : p.b = [[⟨1, 0, 12, [], 0⟩]]
  pairs : p.c.length ≤ 32
  pair : ∀ l ∈ p.c, pairOk l
theorem len6 (a b c d e f : D) : [a, b, c, d, e, f].length = 6 := rfl
end Go.Proofs.YtpnhljhciibfnaaGreatDoor
