import Derived.Test.YtmeohcmbohicoaaGreatDoorRow1
import Derived.Test.YtmeohcmbohicoaaGreatDoorLawFootOthers
import Derived.Test.YtmeohcmbohicoaaGreatDoorRdt
import Derived.Test.YtmeohcmbohicoaaGreatDoorCards
import Derived.Test.YtmeohcmbohicoaaGreatDoorTie
namespace Go.Proofs.YtmeohcmbohicoaaGreatDoor.footOthers
open Go Go.Ev Go.ChangeShapes Go.WideShapes Go.ChangeAt Go.RowKit
open Go.ChangeMaps (open_string shut_string)
theorem body:∃ c,Tryz.f3.body=some c:=wo.1 vo
theorem walk (v0:Value) (a0:Ty) (v1:Value) (a1:Int) (v2:Value) (a2:Int) (v3:Value) (a3:List UInt8) (m0:tyIn a0) (m3:a3.length≤maxLen) (w1:(Lit.int .i64 a1).wf=true) (w2:(Lit.int .u64 a2).wf=true) (w:World) (k0:Rd anyB w v0 (a0.d)) (k1:Rd anyB w v1 (.int .i64 a1)) (k2:Rd anyB w v2 (.int .u64 a2)) (k3:Rd anyB w v3 (.sl (a3.map byteD))) (hg:∀ n ob,cfg.gobj n=some ob→HoldsG w n ob):
  Calls Tryz.prog 3 #[v0,v1,v2,v3] w fun e w'=>e= .returned (.bool true)∧Below w.heap.size w w':=by
 obtain⟨c,hc⟩:=body;refine aw0 (ds:=[a0.d,.int .i64 a1,.int .u64 a2,.sl (a3.map byteD)]) follows cfg_ok funcs_ok ext_ok Tryz.func3 vo hc (s8 a0 a1 a2 a3 m0 m3 w1 w2) rfl (fun i v d h1 h2=> ?_) (fun n e h=>by cases h) hg
 match i,h1,h2 with
 |0,h1,h2=>cases h1;cases h2;exact k0
 |1,h1,h2=>cases h1;cases h2;exact k1
 |2,h1,h2=>cases h1;cases h2;exact k2
 |3,h1,h2=>cases h1;cases h2;exact k3
 |i+4,h1,h2=>simp at h1
set_option maxRecDepth 100000 in
theorem lifted (os:Os) (started:os.Started) (H:Type) (enc:TypeId×Value→H):
  ReturnsInHanded {} Tryz.checked os 3 .any (fun w args=>(Rows.footOthersSpec.pre enc Tryz.prog Tryz.f3 [] false w args∧laidMetH Tryz.prog laids w)∧sizedMet enc Tryz.prog Tryz.f3 (OpenSpec.ofChange Rows.footOthersSpec) false w args)
   (Rows.footOthersSpec.post enc Tryz.prog Tryz.f3 false true false false):=by
 refine returnsInHanded_of_change_and (C:=Tryz.checked) (X:=fun w _=>laidMetH Tryz.prog laids w) (fun _ _ _ hh h=>h.of_heap hh) own started vo Tryz.func3
  (ChangeSpec.witness_shaped (enc:=enc) (C:=Tryz.checked) (os:=os) (X:=fun w _=>laidMetH Tryz.prog laids w) false (ae9 os) #[.agg #[.int .i64 0,.slice none 0 0,.slice none 0 0,.int .i64 0,.int .i64 0,.int .i64 0],.int .i64 0,.int .u64 0,.slice none 0 0] 8 rfl (World.shaped_of_RefB vo vo) vo vo vo (door_met os _)) ?_
 intro W base args ds gs before hval0 hW _ _ hL _;have hval:∀ (j:Nat) t v,Tryz.f3.params[j]? =some t→args[j]? =some v→Value.okWide Tryz.prog W .any base t v:=hval0
 have hW':=hW;obtain⟨p,q,hA0,hV,rfl,hfz,hnd⟩:=hW;have hA:DataW.TrodAll enc Tryz.prog W 0 (fun _=>true) true Tryz.f3.params.toList args.toList ds p:=hA0
 rw[Tryz.params3] at hA hval;obtain⟨v0,vs0,d0,ds0,p0,q0,hargs,rfl,rfl,h0,r0⟩:=trodAll_cons hA;obtain⟨v1,vs1,d1,ds1,p1,q1,rfl,rfl,rfl,h1,r1⟩:=trodAll_cons r0;obtain⟨v2,vs2,d2,ds2,p2,q2,rfl,rfl,rfl,h2,r2⟩:=trodAll_cons r1;obtain⟨v3,vs3,d3,ds3,p3,q3,rfl,rfl,rfl,h3,r3⟩:=trodAll_cons r2;obtain⟨rfl,rfl,rfl⟩:=trodAll_nil r3;obtain rfl:args= #[v0,v1,v2,v3]:=by cases args;simp_all
 obtain⟨rfl,rfl⟩:=trodVars_none hV;obtain⟨x0,rfl,_⟩:=okWide_struct Tryz.underlying25 (hval 0 25 v0 rfl rfl);have lt0:∀ x∈p0,x.block<W.heap.size:=by obtain⟨m,hm⟩:=h0;exact DataW.trod_lt m _ _ _ hm
 obtain⟨a0,m0,k0⟩:=read_ty h0;obtain⟨a1,rfl,rfl,rfl,w1⟩:=open_int Tryz.underlying3 (hval 1 3 v1 rfl rfl) h1;obtain⟨a2,rfl,rfl,rfl,w2⟩:=open_int Tryz.underlying26 (hval 2 26 v2 rfl rfl) h2;obtain⟨x3,l3,c3,rfl⟩:=okWide_slice Tryz.underlying27 (hval 3 27 v3 rfl rfl);have lt3:∀ x∈p3,x.block<W.heap.size:=by obtain⟨m,hm⟩:=h3;exact DataW.trod_lt m _ _ _ hm
 obtain⟨a3,m3,k3⟩:=avx Tryz.underlying27 Tryz.underlying5 vo rfl h3;clear hA0 hval0;simp only[List.append_nil] at hW';refine(walk _ a0 _ a1 _ a2 _ a3 m0 m3 w1 w2 W k0 (.int _ _) (.int _ _) k3 (gobj_of hL)).mono fun e W' ⟨he,bel⟩=> ?_
 subst he;exact⟨_,rfl,_,_,_,[],_,[],hW',trodAll_mk1 (shut_bool Tryz.underlying4 _),(trodAll_cons_mk (Below.trod a66 vo (of_decide_eq_true vo) h0 bel lt0) (trodAll_cons_mk (shut_int Tryz.underlying3 w1) (trodAll_cons_mk (shut_int Tryz.underlying26 w2) (trodAll_cons_mk (Below.trod a66 vo (of_decide_eq_true vo) h3 bel lt3) trodAll_mk0)))),rfl,bel.frame _,fun h=>by cases h⟩
theorem over:Rows.FootOthersSaid:=
 OpenClaim.holds_of_wide 3 Tryz.f3 rfl rfl rfl rfl rfl rfl rfl ⟨rfl,rfl,rfl,rfl,rfl⟩ rfl rfl rfl rfl rfl vo Tryz.func3 vo
  (of_decide_eq_true vo) (by unfold Func.isWrapper;first| (rw[if_pos (by decide +kernel)];kernel_rfl)| (rw[if_neg (by decide +kernel)];exact⟨rfl,rfl⟩))
  (fun os started H enc _=>lifted os started H enc)
theorem card_holds:Rows.FootOthersCardSaid:=
 Claim7.holds_tied_plain_at .later [] [.data,.data,.data,.data,.pinned] true Rows.footOthersCard.stood.harness false
  over (fun _ h=>by cases h) vo (fun _ h=>by cases h) footOthers_row_tie rfl ⟨rfl,rfl⟩ vo rfl
  (fun f fn hf hfn=>by
   obtain rfl:f=3:=Option.some.inj ((show Tryz.prog.funcNamed "ingot/ingotlaw21.FootOthers"= some 3 by kernel_rfl).symm.trans hf) |>.symm
   obtain rfl:fn=Tryz.f3:=(Option.some.inj (Tryz.func3.symm.trans hfn)).symm;exact⟨by kernel_rfl,fun j t ht=>by
    rw[Tryz.params3] at ht
    match j,ht with
    |0,ht=>cases ht;exact(show Tryz.prog.wantsStandIn 25=false by kernel_rfl)
    |1,ht=>cases ht;exact(show Tryz.prog.wantsStandIn 3=false by kernel_rfl)
    |2,ht=>cases ht;exact(show Tryz.prog.wantsStandIn 26=false by kernel_rfl)
    |3,ht=>cases ht;exact(show Tryz.prog.wantsStandIn 27=false by kernel_rfl)
    |j+4,ht=>simp at ht⟩)
  vo
end Go.Proofs.YtmeohcmbohicoaaGreatDoor.footOthers
