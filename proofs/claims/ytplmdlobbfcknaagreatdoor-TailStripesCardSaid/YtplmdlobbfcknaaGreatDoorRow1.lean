import Derived.Test.YtplmdlobbfcknaaGreatDoorRows
import Derived.Test.YtplmdlobbfcknaaGreatDoorExt
import Derived.Test.YtplmdlobbfcknaaGreatDoorL8
import Derived.Test.YtplmdlobbfcknaaGreatDoorL9
import Derived.WalkKit
import Derived.ProofKit
import Derived.OpenShut
import Derived.ShutString
import Derived.ChangeOld
import Derived.Below
import Derived.Carry
import Derived.LaidMore
import Derived.LaidLaws
import Derived.LaidHandle
import Derived.Handed
import Derived.Stop.Joined
namespace Go.Proofs.YtplmdlobbfcknaaGreatDoor
set_option maxRecDepth 100000
open Go Go.Ev Go.ChangeShapes Go.WideShapes Go.ChangeAt Go.RowKit
theorem own:ownKnob Tryz.prog.godebug=none:=yk
theorem az7:laidOutB Tryz.prog=true:=yk
abbrev laids:List (String×DataW Unit):=Rows.tailStripesRow.laid
theorem globalE:Tryz.prog.globalNamed "errors.errorType"= some 0:=yk
theorem rtypeE:(Tryz.prog.cutTypes.find? (·.1=="internal/reflectlite.rtype")).map (·.2)=some 184:=yk
theorem oneRow:((List.range Tryz.prog.types.size).filter fun t=>Tryz.prog.rowNamed t [101,114,114,111,114])=[52]:=yk
theorem gobj_of {W:World} (h:laidMetH Tryz.prog laids W):∀ n ob,cfg.gobj n=some ob→HoldsG W n ob:=by
 have h':laidMet Tryz.prog (laids.filter fun x=>x.2.handleName?.isNone) W∧handlesMet Tryz.prog [("errors.errorType",Rows.laid_errors_errorType)] W:=h
 obtain⟨name,u,ty,e1,e2,e3,e4,e5⟩:=h'.2 _ (zx.2 rfl);have en:name=[101,114,114,111,114]:=(Option.some.inj e1).symm;subst en;obtain rfl:=Option.some.inj (rtypeE.symm.trans e2);have hm:ty∈(List.range Tryz.prog.types.size).filter fun t=>Tryz.prog.rowNamed t [101,114,114,111,114]:=aai.2 ⟨z7.2 e3,e4⟩
 rw[oneRow] at hm;obtain rfl:=zx.1 hm;have hh:typeHandle Tryz.prog 52= .pointer (some ⟨7,52,none⟩):=yk;rw[hh] at e5;intro n ob hob;have hob':gobjs n=some ob:=hob;unfold gobjs at hob';split at hob'
 · rename_i e
   subst e;cases hob';unfold World.var? at e5;rw[globalE] at e5;simp only[Option.bind_some] at e5;split at e5
   · rename_i cs' t' fr hhh
     cases e5;exact⟨t',fr,hhh⟩
   · cases e5
 · cases hob'
def cellOf:DataW Unit→Value
 | .lit (.int k n)=> .int k n
 |_=> .bool false
def cellsOf':DataW Unit→List Value
 | .agg l=>l.map cellOf
 |_=>[]
def firstCells:Array Value:=(cellsOf' Go.Pinned.utf8First).toArray
noncomputable def adr (os:Os):World:=
 let w0:=World.doorLaid Tryz.prog 2000 os
 {w0 with heap:=w0.heap.modify 5 fun
  | .cells _ t frozen=> .cells firstCells t frozen
  |o=>o}
theorem door_met (os:Os) (args:Array Value):laidMetH Tryz.prog laids ((adr os).forCall (fun _ _=>0) ⟨#[],args,[]⟩).memory:=
 laidMetH_of_parts (laidMet_of_run' 8 yk yk) yk
end Go.Proofs.YtplmdlobbfcknaaGreatDoor
