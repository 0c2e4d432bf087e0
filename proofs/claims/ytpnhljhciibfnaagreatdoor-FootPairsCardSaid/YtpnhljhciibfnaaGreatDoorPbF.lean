/- Fields sought by number: texts. -/
import Derived.Test.YtpnhljhciibfnaaGreatDoorPbD
namespace Go.Proofs.YtpnhljhciibfnaaGreatDoor
open Go Go.Ev
set_option linter.unusedVariables false
set_option linter.unusedSimpArgs false
set_option maxHeartbeats 4000000

def textD (o : Option Fld) : V := .d (.tup [.sl ((o.getD fld0).b.map byteD), .bool o.isSome])
theorem pb_Text_ans (fs : List Fld) (num : Nat) (hn : fs.length ≤ 1000000) (hb : ∀ f ∈ fs, f.b.length ≤ 1000000) : evL cfg n_pb_Text 0 [.d (.sl (fs.map Fld.d)), .d (.int .i64 ((num : Int)))] [] = some (textD (lastM fs num 2), []) := by
  rw [o_pb_Text]
  have h := pb_last_ans fs num 2 hn
  rw [show ((2 : Nat) : Int) = 2 from rfl] at h
  simp only [lastD, Fld.d] at h
  unfold textD
  have hl : ((lastM fs num 2).getD fld0).b.length ≤ 1000000 := by
    cases ho : lastM fs num 2 with
    | none => simp [fld0]
    | some f => exact hb f (List.mem_reverse.1 (List.mem_of_find?_eq_some ho))
  generalize lastM fs num 2 = o at *
  have hcl := clone_bytes_ans (o.getD fld0).b hl
  generalize ((o.getD fld0).b) = q at *
  cases q with
  | nil =>
    simp only [List.isEmpty_nil, if_true, List.map_nil] at hcl h
    simp (disch := first | omega | (simp only [go_sem, List.length_take, List.length_drop] <;> omega) | assumption | decide | fail) only [go_sem, X_pb_Text, c_pb_Text, h, hcl, Nat.reduceLeDiff, Nat.reduceLT, Nat.reduceAdd, Int.reduceAdd, Int.reduceSub, Int.reduceNeg, ↓reduceIte, Nat.reduceEqDiff, reduceCtorEq, Int.reduceBEq, Int.reduceBNe, Nat.reduceBEq]
  | cons x q =>
    simp only [List.isEmpty_cons, Bool.false_eq_true, if_false, List.map_cons] at hcl h
    simp (disch := first | omega | (simp only [go_sem, List.length_take, List.length_drop] <;> omega) | assumption | decide | fail) only [go_sem, X_pb_Text, c_pb_Text, h, hcl, Nat.reduceLeDiff, Nat.reduceLT, Nat.reduceAdd, Int.reduceAdd, Int.reduceSub, Int.reduceNeg, ↓reduceIte, Nat.reduceEqDiff, reduceCtorEq, Int.reduceBEq, Int.reduceBNe, Nat.reduceBEq]
end Go.Proofs.YtpnhljhciibfnaaGreatDoor
