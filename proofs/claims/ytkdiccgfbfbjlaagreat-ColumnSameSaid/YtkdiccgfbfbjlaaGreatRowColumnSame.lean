import Derived.Test.YtkdiccgfbfbjlaaGreatRow1
import Derived.Test.YtkdiccgfbfbjlaaGreatLawColumnSame
namespace Go.Proofs.YtkdiccgfbfbjlaaGreat.columnSame
open Go Go.Ev Go.ChangeShapes Go.WideShapes Go.ChangeAt Go.RowKit
open Go.ChangeMaps (open_string shut_string)
theorem body:∃ c,Tryz.f4.body=some c:=acl.1 abv
theorem walk (v0:Value) (a0:Ty) (v1:Value) (a1:List Va) (v2:Value) (a2:Op) (m0:Qq a0) (m1:a1.length≤maxLen∧∀ a∈a1,okV a) (w:World) (k0:Rd CE w v0 (a0.d)) (k1:Rd CE w v1 (.sl (a1.map Va.d))) (k2:Rd CE w v2 (a2.d)):
  Calls Tryz.prog 4 #[v0,v1,v2] w fun e w'=>e= .returned (.bool true)∧Below w.heap.size w w':=by
 obtain⟨c,hc⟩:=body;refine bcb (ds:=[a0.d,.sl (a1.map Va.d),a2.d]) follows Vb a9r X9 Tryz.func4 abv hc (xo a0 a1 a2 m0 m1) rfl (fun i v d h1 h2=> ?_) (fun n e h=>by cases h) (fun n ob h=>by cases h)
 match i,h1,h2 with
 |0,h1,h2=>cases h1;cases h2;exact k0
 |1,h1,h2=>cases h1;cases h2;exact k1
 |2,h1,h2=>cases h1;cases h2;exact k2
 |i+3,h1,h2=>simp at h1
set_option maxRecDepth 100000 in
theorem lifted (os:Os) (started:os.Started) (H:Type) (enc:TypeId×Value→H):
   ReturnsInHanded {} Tryz.checked os 4 .any (Rows.columnSameSpec.pre6 enc Tryz.prog Tryz.f4 [] false)
    (Rows.columnSameSpec.post enc Tryz.prog Tryz.f4 false true false false):=by
 refine returnsInHanded_of_change (C:=Tryz.checked) own started abv Tryz.func4 ?_ ?_
 · obtain⟨w,tape,i,h1,h2,h3,h4,⟨⟨h5,_⟩,h6⟩,h7⟩:=ChangeSpec.witness_shaped (enc:=enc) (C:=Tryz.checked) (os:=os) (s:=Rows.columnSameSpec) (conds:=[]) (apart:=false) (X:=fun _ _=>True) false (blt os) #[.agg #[.int .i64 0,.slice none 0 0,.slice none 0 0,.int .i64 0,.int .i64 0,.int .i64 0],.slice none 0 0,.agg #[.int .i64 0,.int .i64 0,.int .i64 0,.int .i64 0,.int .i64 0,.int .i64 0]] 8 rfl (World.shaped_of_RefB abv abv) abv abv abv trivial
   exact⟨w,tape,i,h1,h2,h3,h4,⟨h5,h6⟩,h7⟩
 intro W base args ds gs before hval0 hW _ _;have hval:∀ (j:Nat) t v,Tryz.f4.params[j]? =some t→args[j]? =some v→Value.okWide Tryz.prog W .any base t v:=hval0
 have hW':=hW;obtain⟨p,q,hA0,hV,rfl,hfz,hnd⟩:=hW;have hA:DataW.TrodAll enc Tryz.prog W 0 (fun _=>true) true Tryz.f4.params.toList args.toList ds p:=hA0
 rw[Tryz.params4] at hA hval;obtain⟨v0,vs0,d0,ds0,p0,q0,hargs,rfl,rfl,h0,r0⟩:=trodAll_cons hA;obtain⟨v1,vs1,d1,ds1,p1,q1,rfl,rfl,rfl,h1,r1⟩:=trodAll_cons r0;obtain⟨v2,vs2,d2,ds2,p2,q2,rfl,rfl,rfl,h2,r2⟩:=trodAll_cons r1;obtain⟨rfl,rfl,rfl⟩:=trodAll_nil r2;obtain rfl:args= #[v0,v1,v2]:=by cases args;simp_all
 obtain⟨rfl,rfl⟩:=trodVars_none hV;obtain⟨x0,rfl,_⟩:=okWide_struct Tryz.underlying25 (hval 0 25 v0 rfl rfl);have lt0:∀ x∈p0,x.block<W.heap.size:=by obtain⟨m,hm⟩:=h0;exact DataW.trod_lt m _ _ _ hm
 obtain⟨a0,m0,k0⟩:=XV h0;obtain⟨x1,l1,c1,rfl⟩:=okWide_slice Tryz.underlying26 (hval 1 26 v1 rfl rfl);have lt1:∀ x∈p1,x.block<W.heap.size:=by obtain⟨m,hm⟩:=h1;exact DataW.trod_lt m _ _ _ hm
 obtain⟨a1,m1,k1⟩:=TC h1 rfl;obtain⟨x2,rfl,_⟩:=okWide_struct Tryz.underlying28 (hval 2 28 v2 rfl rfl);have lt2:∀ x∈p2,x.block<W.heap.size:=by obtain⟨m,hm⟩:=h2;exact DataW.trod_lt m _ _ _ hm
 obtain⟨a2,k2⟩:=bdo h2;clear hA0 hval0;simp only[List.append_nil] at hW';refine(walk _ a0 _ a1 _ a2 m0 m1 W k0 k1 k2).mono fun e W' ⟨he,bel⟩=> ?_
 subst he;exact⟨_,rfl,_,_,_,[],_,[],hW',trodAll_mk1 (shut_bool Tryz.underlying4 _),(trodAll_cons_mk (Below.trod ap7 abv (of_decide_eq_true abv) h0 bel lt0) (trodAll_cons_mk (Below.trod ap7 abv (of_decide_eq_true abv) h1 bel lt1) (trodAll_cons_mk (Below.trod ap7 abv (of_decide_eq_true abv) h2 bel lt2) trodAll_mk0))),rfl,bel.frame _,fun h=>by cases h⟩
theorem over:Rows.ColumnSameSaid:=
 OpenClaim.holds_of_wide 4 Tryz.f4 rfl rfl rfl rfl rfl rfl rfl ⟨rfl,rfl,rfl,rfl,rfl⟩ rfl rfl rfl rfl rfl abv Tryz.func4 abv
  (of_decide_eq_true abv) (by unfold Func.isWrapper;first| (rw[if_pos (by decide +kernel)];kernel_rfl)| (rw[if_neg (by decide +kernel)];exact⟨rfl,rfl⟩))
  (fun os started H enc _=>lifted os started H enc)
end Go.Proofs.YtkdiccgfbfbjlaaGreat.columnSame
