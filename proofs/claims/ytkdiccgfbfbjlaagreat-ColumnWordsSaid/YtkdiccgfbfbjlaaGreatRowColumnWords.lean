import Derived.Test.YtkdiccgfbfbjlaaGreatRow1
import Derived.Test.YtkdiccgfbfbjlaaGreatLawColumnWords
import Derived.Test.YtkdiccgfbfbjlaaGreatRds
namespace Go.Proofs.YtkdiccgfbfbjlaaGreat.columnWords
open Go Go.Ev Go.ChangeShapes Go.WideShapes Go.ChangeAt Go.RowKit
open Go.ChangeMaps (open_string shut_string)
theorem body:∃ c,Tryz.f7.body=some c:=zn.1 yr
theorem walk (v0:Value) (a0:List Tx) (v1:Value) (a1:Op) (m0:a0.length≤maxLen) (w:World) (k0:Rd anyB w v0 (.sl (a0.map txt))) (k1:Rd anyB w v1 (a1.d)):
  Calls Tryz.prog 7 #[v0,v1] w fun e w'=>e= .returned (.bool true)∧Below w.heap.size w w':=by
 obtain⟨c,hc⟩:=body;refine aw0 (ds:=[.sl (a0.map txt),a1.d]) follows cfg_ok funcs_ok ext_ok Tryz.func7 yr hc (rr a0 a1 m0) rfl (fun i v d h1 h2=> ?_) (fun n e h=>by cases h) (fun n ob h=>by cases h)
 match i,h1,h2 with
 |0,h1,h2=>cases h1;cases h2;exact k0
 |1,h1,h2=>cases h1;cases h2;exact k1
 |i+2,h1,h2=>simp at h1
set_option maxRecDepth 100000 in
theorem lifted (os:Os) (started:os.Started) (H:Type) (enc:TypeId×Value→H):
   ReturnsInHanded {} Tryz.checked os 7 .any (Rows.columnWordsSpec.pre6 enc Tryz.prog Tryz.f7 [] false)
    (Rows.columnWordsSpec.post enc Tryz.prog Tryz.f7 false true false false):=by
 refine returnsInHanded_of_change (C:=Tryz.checked) own started yr Tryz.func7 ?_ ?_
 · obtain⟨w,tape,i,h1,h2,h3,h4,⟨⟨h5,_⟩,h6⟩,h7⟩:=ChangeSpec.witness_shaped (enc:=enc) (C:=Tryz.checked) (os:=os) (s:=Rows.columnWordsSpec) (conds:=[]) (apart:=false) (X:=fun _ _=>True) false (a29 os) #[.slice none 0 0,.agg #[.int .i64 0,.int .i64 0,.int .i64 0,.int .i64 0,.int .i64 0,.int .i64 0]] 8 rfl (World.shaped_of_RefB yr yr) yr yr yr trivial
   exact⟨w,tape,i,h1,h2,h3,h4,⟨h5,h6⟩,h7⟩
 intro W base args ds gs before hval0 hW _ _;have hval:∀ (j:Nat) t v,Tryz.f7.params[j]? =some t→args[j]? =some v→Value.okWide Tryz.prog W .any base t v:=hval0
 have hW':=hW;obtain⟨p,q,hA0,hV,rfl,hfz,hnd⟩:=hW;have hA:DataW.TrodAll enc Tryz.prog W 0 (fun _=>true) true Tryz.f7.params.toList args.toList ds p:=hA0
 rw[Tryz.params7] at hA hval;obtain⟨v0,vs0,d0,ds0,p0,q0,hargs,rfl,rfl,h0,r0⟩:=trodAll_cons hA;obtain⟨v1,vs1,d1,ds1,p1,q1,rfl,rfl,rfl,h1,r1⟩:=trodAll_cons r0;obtain⟨rfl,rfl,rfl⟩:=trodAll_nil r1;obtain rfl:args= #[v0,v1]:=by cases args;simp_all
 obtain⟨rfl,rfl⟩:=trodVars_none hV;obtain⟨x0,l0,c0,rfl⟩:=okWide_slice Tryz.underlying53 (hval 0 53 v0 rfl rfl);have lt0:∀ x∈p0,x.block<W.heap.size:=by obtain⟨m,hm⟩:=h0;exact DataW.trod_lt m _ _ _ hm
 obtain⟨a0,m0,k0⟩:=avv Tryz.underlying53 Tryz.underlying65 Tryz.underlying5 yr yr rfl h0;have lt1:∀ x∈p1,x.block<W.heap.size:=by obtain⟨m,hm⟩:=h1;exact DataW.trod_lt m _ _ _ hm
 obtain⟨a1,k1⟩:=ayl (hval 1 28 v1 rfl rfl) h1;clear hA0 hval0;simp only[List.append_nil] at hW';refine(walk _ a0 _ a1 m0 W k0 k1).mono fun e W' ⟨he,bel⟩=> ?_
 subst he;exact⟨_,rfl,_,_,_,[],_,[],hW',trodAll_mk1 (shut_bool Tryz.underlying4 _),(trodAll_cons_mk (Below.trod a3a yr (of_decide_eq_true yr) h0 bel lt0) (trodAll_cons_mk (Below.trod a3a yr (of_decide_eq_true yr) h1 bel lt1) trodAll_mk0)),rfl,bel.frame _,fun h=>by cases h⟩
theorem over:Rows.ColumnWordsSaid:=
 OpenClaim.holds_of_wide 7 Tryz.f7 rfl rfl rfl rfl rfl rfl rfl ⟨rfl,rfl,rfl,rfl,rfl⟩ rfl rfl rfl rfl rfl yr Tryz.func7 yr
  (of_decide_eq_true yr) (by unfold Func.isWrapper;first| (rw[if_pos (by decide +kernel)];kernel_rfl)| (rw[if_neg (by decide +kernel)];exact⟨rfl,rfl⟩))
  (fun os started H enc _=>lifted os started H enc)
end Go.Proofs.YtkdiccgfbfbjlaaGreat.columnWords
