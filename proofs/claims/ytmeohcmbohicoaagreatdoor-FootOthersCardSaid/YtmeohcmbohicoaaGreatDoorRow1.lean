import Derived.Test.YtmeohcmbohicoaaGreatDoorRows
import Derived.Test.YtmeohcmbohicoaaGreatDoorExt
import Derived.Test.YtmeohcmbohicoaaGreatDoorL8
import Derived.Test.YtmeohcmbohicoaaGreatDoorL9
import Derived.WalkKit
import Derived.ProofKit
import Derived.OpenShut
import Derived.ShutString
import Derived.ChangeOld
import Derived.Below
import Derived.LaidMore
import Derived.Stop.Joined
import Derived.Lib.LaidTab
namespace Go.Proofs.YtmeohcmbohicoaaGreatDoor
open Go Go.Ev Go.ChangeShapes Go.WideShapes Go.ChangeAt Go.RowKit
theorem own:ownKnob Tryz.prog.godebug=none:=vo
theorem a66:laidOutB Tryz.prog=true:=vo
abbrev laids:List (String×DataW Unit):=Rows.footOthersRow.laid
theorem gobj_of {W:World} (_:laidMetH Tryz.prog laids W):∀ n ob,cfg.gobj n=some ob→HoldsG W n ob:=fun _ _ h=>by cases h
def cellOf:DataW Unit→Value
 | .lit (.int k n)=> .int k n
 |_=> .bool false
def cellsOf':DataW Unit→List Value
 | .agg l=>l.map cellOf
 |_=>[]
def firstCells:Array Value:=(cellsOf' Go.Pinned.utf8First).toArray
noncomputable def ae9 (os:Os):World:=
 let w0:=World.doorLaid Tryz.prog 2000 os
 {w0 with heap:=w0.heap.modify 4 fun
  | .cells _ t frozen=> .cells firstCells t frozen
  |o=>o}
theorem door_met (os:Os) (args:Array Value):laidMetH Tryz.prog laids ((ae9 os).forCall (fun _ _=>0) ⟨#[],args,[]⟩).memory:=
 laidMetH_of_parts3 (fuel:=8) (laidMet_of_run' 8 vo vo) vo vo
end Go.Proofs.YtmeohcmbohicoaaGreatDoor
