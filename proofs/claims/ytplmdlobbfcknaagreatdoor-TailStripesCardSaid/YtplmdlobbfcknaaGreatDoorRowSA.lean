import Derived.Test.YtplmdlobbfcknaaGreatDoorRow1
import Derived.Test.YtplmdlobbfcknaaGreatDoorLawTailStripes
import Derived.Test.YtplmdlobbfcknaaGreatDoorRds
import Derived.Test.YtplmdlobbfcknaaGreatDoorCards
import Derived.Test.YtplmdlobbfcknaaGreatDoorTie
namespace Go.Proofs.YtplmdlobbfcknaaGreatDoor.tailStripes
open Go Go.Ev Go.ChangeShapes Go.WideShapes Go.ChangeAt Go.RowKit
open Go.ChangeMaps (open_string shut_string)
theorem body:∃ c,Tryz.f3.body=some c:=y5.1 yk
theorem walk (v0:Value) (a0:List UInt8) (v1:Value) (a1:List I5) (v2:Value) (a2:Int) (m0:a0.length≤maxLen) (m1:a1.length≤maxLen) (w2:(Lit.int .i64 a2).wf=true) (w:World) (k0:Rd anyB w v0 (.sl (a0.map byteD))) (k1:Rd anyB w v1 (.sl (a1.map s5D))) (k2:Rd anyB w v2 (.int .i64 a2)) (hg:∀ n ob,cfg.gobj n=some ob→HoldsG w n ob):
  Calls Tryz.prog 3 #[v0,v1,v2] w fun e w'=>e= .returned (.bool true)∧Below w.heap.size w w':=by
 obtain⟨c,hc⟩:=body;refine ar4 (ds:=[.sl (a0.map byteD),.sl (a1.map s5D),.int .i64 a2]) follows cfg_ok funcs_ok ext_ok Tryz.func3 yk hc (sq a0 a1 a2 m0 m1 w2) rfl (fun i v d h1 h2=> ?_) (fun n e h=>by cases h) hg
 match i,h1,h2 with
 |0,h1,h2=>cases h1;cases h2;exact k0
 |1,h1,h2=>cases h1;cases h2;exact k1
 |2,h1,h2=>cases h1;cases h2;exact k2
 |i+3,h1,h2=>simp at h1
set_option maxRecDepth 100000 in
theorem lifted (os:Os) (started:os.Started) (H:Type) (enc:TypeId×Value→H):
  ReturnsInHanded {} Tryz.checked os 3 .any (fun w args=>(Rows.tailStripesSpec.pre enc Tryz.prog Tryz.f3 [] false w args∧laidMetH Tryz.prog laids w)∧sizedMet enc Tryz.prog Tryz.f3 (OpenSpec.ofChange Rows.tailStripesSpec) false w args)
   (Rows.tailStripesSpec.post enc Tryz.prog Tryz.f3 false true false false):=by
 refine returnsInHanded_of_change_and (C:=Tryz.checked) (X:=fun w _=>laidMetH Tryz.prog laids w) (fun _ _ _ hh h=>h.of_heap hh) own started yk Tryz.func3
  (ChangeSpec.witness_shaped (enc:=enc) (C:=Tryz.checked) (os:=os) (X:=fun w _=>laidMetH Tryz.prog laids w) false (adr os) #[.slice none 0 0,.slice none 0 0,.int .i64 0] 8 rfl (World.shaped_of_RefB yk yk) yk yk yk (door_met os _)) ?_
 intro W base args ds gs before hval0 hW _ _ hL _;have hval:∀ (j:Nat) t v,Tryz.f3.params[j]? =some t→args[j]? =some v→Value.okWide Tryz.prog W .any base t v:=hval0
 have hW':=hW;obtain⟨p,q,hA0,hV,rfl,hfz,hnd⟩:=hW;have hA:DataW.TrodAll enc Tryz.prog W 0 (fun _=>true) true Tryz.f3.params.toList args.toList ds p:=hA0
 rw[Tryz.params3] at hA hval;obtain⟨v0,vs0,d0,ds0,p0,q0,hargs,rfl,rfl,h0,r0⟩:=trodAll_cons hA;obtain⟨v1,vs1,d1,ds1,p1,q1,rfl,rfl,rfl,h1,r1⟩:=trodAll_cons r0;obtain⟨v2,vs2,d2,ds2,p2,q2,rfl,rfl,rfl,h2,r2⟩:=trodAll_cons r1;obtain⟨rfl,rfl,rfl⟩:=trodAll_nil r2;obtain rfl:args= #[v0,v1,v2]:=by cases args;simp_all
 obtain⟨rfl,rfl⟩:=trodVars_none hV;obtain⟨x0,l0,c0,rfl⟩:=okWide_slice Tryz.underlying22 (hval 0 22 v0 rfl rfl);have lt0:∀ x∈p0,x.block<W.heap.size:=by obtain⟨m,hm⟩:=h0;exact DataW.trod_lt m _ _ _ hm
 obtain⟨a0,m0,k0⟩:=aqx Tryz.underlying22 Tryz.underlying5 yk rfl h0;obtain⟨x1,l1,c1,rfl⟩:=okWide_slice Tryz.underlying23 (hval 1 23 v1 rfl rfl);have lt1:∀ x∈p1,x.block<W.heap.size:=by obtain⟨m,hm⟩:=h1;exact DataW.trod_lt m _ _ _ hm
 obtain⟨a1,m1,k1⟩:=yh h1 rfl;obtain⟨a2,rfl,rfl,rfl,w2⟩:=open_int Tryz.underlying3 (hval 2 3 v2 rfl rfl) h2;clear hA0 hval0;simp only[List.append_nil] at hW';refine(walk _ a0 _ a1 _ a2 m0 m1 w2 W k0 k1 (.int _ _) (gobj_of hL)).mono fun e W' ⟨he,bel⟩=> ?_
 subst he;exact⟨_,rfl,_,_,_,[],_,[],hW',trodAll_mk1 (shut_bool Tryz.underlying4 _),(trodAll_cons_mk (Below.trod az7 yk (of_decide_eq_true yk) h0 bel lt0) (trodAll_cons_mk (Below.trod az7 yk (of_decide_eq_true yk) h1 bel lt1) (trodAll_cons_mk (shut_int Tryz.underlying3 w2) trodAll_mk0))),rfl,bel.frame _,fun h=>by cases h⟩
