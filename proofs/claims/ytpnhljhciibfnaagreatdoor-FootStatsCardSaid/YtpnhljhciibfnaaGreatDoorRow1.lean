import Derived.Test.YtpnhljhciibfnaaGreatDoorRows
import Derived.Test.YtpnhljhciibfnaaGreatDoorExt
import Derived.Test.YtpnhljhciibfnaaGreatDoorL8
import Derived.Test.YtpnhljhciibfnaaGreatDoorL10
import Derived.WalkKit
import Derived.ProofKit
import Derived.OpenShut
import Derived.ShutString
import Derived.ChangeOld
import Derived.Below
import Derived.LaidMore
import Derived.Stop.Joined
import Derived.Lib.LaidTab
namespace Go.Proofs.YtpnhljhciibfnaaGreatDoor
open Go Go.Ev Go.ChangeShapes Go.WideShapes Go.ChangeAt Go.RowKit
theorem own:ownKnob Tryz.prog.godebug=none:=aa2
theorem avc:laidOutB Tryz.prog=true:=aa2
abbrev HE:List (String×DataW Unit):=Rows.footStatsRow.laid
theorem Vn:(Rows.laid_internal_strconv_uint64pow10:DataW Unit)=Lib.tabData .u64 Lib.pow10Tab:=aa2
theorem bsk {P:Program} {w:World} {n:String} {d:DataW Unit}:∀ {l:List (String×DataW Unit)} {ps:List MemPlace},DataW.LaidVars P w l ps→(n,d)∈l→
  ∃ g t cs fuel p,P.globalNamed n=some g∧(P.globals[g]?).map (·.type)=some t∧w.var? P n=some cs∧DataW.trod (fun _=>()) P w 0 (fun _=>true) false fuel t cs.toList=some (d,p)
 | [],_,_,h=>by cases h
 | (n',d')::r,ps,hl,h=>by
  obtain⟨g,t,cs,fuel,p,q,h1,h2,h3,h4,h5,_⟩:=hl;rcases abr.1 h with e|h
  · cases e
    exact⟨g,t,cs,fuel,p,h1,h2,h3,h4⟩
  · exact bsk h5 h
theorem ZA {W:World} (h:laidMetH Tryz.prog HE W):∀ n ob,cfg.B1 n=some ob→Bo W n ob:=by
 obtain⟨ps,hl,_⟩:laidMet Tryz.prog HE W:=h;obtain⟨g,t,cs,fuel,p,h1,h2,h3,h4⟩:=bsk (n:="internal/strconv.uint64pow10") (d:=Rows.laid_internal_strconv_uint64pow10) hl (List.Mem.tail _ (List.Mem.tail _ (List.Mem.head _)));have hn:Tryz.prog.globalNamed "internal/strconv.uint64pow10"= some 0:=aa2;obtain rfl:=Option.some.inj (hn.symm.trans h1);have hty:(Tryz.prog.globals[0]?).map (·.type)=some 265:=aa2
 obtain rfl:=Option.some.inj (hty.symm.trans h2);rw[Vn] at h4;have hc:=Lib.cells_of_tab Tryz.underlying265 Tryz.underlying66 aa2 aa2 h4;intro n ob hob;have hob':WN n=some ob:=hob;unfold WN at hob';split at hob'
 · rename_i e
   subst e;cases hob';unfold World.var? at h3;rw[hn] at h3;simp only[Option.bind_some] at h3;split at h3
   · rename_i cs' t' fr hh
     cases h3;refine⟨t',fr,?_⟩;rw[hh];have:cs=Vo:=by
      apply Array.ext';rw[hc];rfl
     rw[this]
   · cases h3
 · cases hob'
def cellOf:DataW Unit→Value
 | .lit (.int k n)=> .int k n
 |_=> .bool false
def XA:DataW Unit→List Value
 | .agg l=>l.map cellOf
 |_=>[]
def firstCells:Array Value:=(XA Go.Pinned.utf8First).toArray
noncomputable def aon (os:Os):World:=
 let w0:=World.doorLaid Tryz.prog 2000 os
 {w0 with heap:=w0.heap.modify 4 fun
  | .cells _ t frozen=> .cells firstCells t frozen
  |o=>o}
theorem W0 (os:Os) (args:Array Value):laidMetH Tryz.prog HE ((aon os).forCall (fun _ _=>0) ⟨#[],args,[]⟩).memory:=
 laidMetH_of_parts3 (fuel:=8) (laidMet_of_run' 8 aa2 aa2) aa2 aa2
