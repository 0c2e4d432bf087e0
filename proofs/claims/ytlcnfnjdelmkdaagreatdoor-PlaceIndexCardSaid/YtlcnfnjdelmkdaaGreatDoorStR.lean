import Derived.Test.YtlcnfnjdelmkdaaGreatDoorStQ
set_option linter.unusedSectionVars false
namespace Go.Proofs.YtlcnfnjdelmkdaaGreatDoor
open Go Go.Ev
set_option maxHeartbeats 8000000
set_option maxRecDepth 10000
section
variable (t:Ty) (b:List UInt8) (hl:b.length≤2000)
include hl
section
variable (h:(aa b).2=0) (h2:uM (aa b).1 1≤262144) (hn:(aa b).1.length≤1000000) (hb:∀ f∈(aa b).1,f.b.length≤1000000)
include h h2 hn hb
section
variable {f:Fld} (hk:0<partM t.kind) (hf:lastM (aa b).1 (partM t.kind).toNat 2=some f) (h3:(aa f.b).2=0) (gn:(aa f.b).1.length≤1000000) (gb:∀ g∈(aa f.b).1,g.b.length≤4000) (gu:∀ g∈(aa f.b).1,g.u<18446744073709551616) (ho:ownM t=0)
include hk hf h3 gn gb gu ho
theorem rr_k2 (hkp:partM t.kind=2):evL cfg n_aa 0 [.d t.d,.d (.sl ((b).map byteD))] []=some (resS (finR t ⟨(uM (aa b).1 1:Int),(uM (aa b).1 10 !=0),(lastM (aa f.b).1 1 0).isSome,leaf (zI (lastM (aa f.b).1 1 0)) (0) ([]),leaf (zI (lastM (aa f.b).1 2 0)) (0) ([]),(lastM (aa f.b).1 3 0).isSome,(zI (lastM (aa f.b).1 3 0))⟩ ((lastM (aa f.b).1 1 0).isSome==(lastM (aa f.b).1 2 0).isSome)).1 ((finR t ⟨(uM (aa b).1 1:Int),(uM (aa b).1 10 !=0),(lastM (aa f.b).1 1 0).isSome,leaf (zI (lastM (aa f.b).1 1 0)) (0) ([]),leaf (zI (lastM (aa f.b).1 2 0)) (0) ([]),(lastM (aa f.b).1 3 0).isSome,(zI (lastM (aa f.b).1 3 0))⟩ ((lastM (aa f.b).1 1 0).isSome==(lastM (aa f.b).1 2 0).isSome)).2:Int),[]):=by
 have hp:=al b y8;have f1:=au t.kind;have f2:=ao t.kind;have hpm:=db t.kind;have u1:=ag (aa b).1 1 hn;have u10:=ag (aa b).1 10 hn;rw[o_aa,eh];unfold cd at hp;rw[h,show((0:Nat):Int)=0 from rfl] at hp
 rw[show((1:Nat):Int)=1 from rfl] at u1
 rw[show((10:Nat):Int)=10 from rfl] at u10
 unfold uM at h2 ⊢;unfold uintD at u1 u10;have g:=ax (aa b).1 (partM t.kind).toNat hn hb;rw[hf,aas y8] at g;dsimp only at g;rw[h3,show((0:Nat):Int)=0 from rfl] at g
 have a1:=i9 (aa f.b).1 gn gu;have a2:=e9 (aa f.b).1 3 gn gu;rw[show((3:Nat):Int)=3 from rfl] at a2
 unfold intD at a2;have j1:=zI_in gu 1 0;have j2:=zI_in gu 2 0;generalize(aa b).1=fs at *;generalize(aa f.b).1=qs at *;have d1:decide ((((lastM fs 1 0).getD fld0).u:Int)>262144)=false:=by simp;omega
 have d10:=b5 ((lastM fs 10 0).getD fld0).u;generalize((lastM fs 1 0).getD fld0).u=v1 at *;generalize((lastM fs 10 0).getD fld0).u=v10 at *;have w1:IntKind.wrap .i64 (v1:Int)=v1:=az y8 y8;rcases zf (decide (t.kind≥1)&&decide (t.kind≤4)) with k0|k0
 · rw[k0,if_pos rfl] at hpm
   rw[hpm] at g;unfold zI at *;have T:=bu t v1 (v10 !=0) (lastM qs 1 0).isSome (zI (lastM qs 1 0)) 0 .nilS [] (zI (lastM qs 2 0)) 0 .nilS [] (lastM qs 3 0).isSome (zI (lastM qs 3 0)) ((lastM qs 1 0).isSome==(lastM qs 2 0).isSome) ho ⟨rfl,rfl⟩ ⟨rfl,rfl⟩ j1 j2 zb zb;simp only[mT,boxT,dk,dx,List.cons_append,List.nil_append,X_aa] at T;simp(maxSteps:=2000000) (disch:=first|exact y7|fail) only[go_sem,X_aa,refB,hp,f1,f2,u1,u10,d1,d10,w1,g,a1,a2,k0]
   exact T
 rw[k0,if_neg zb] at hpm;rcases zf (textK t.kind&&t.kind !=8) with k1|k1
 · rw[k1,if_pos rfl] at hpm
   omega
 rw[k1,if_neg zb] at hpm;rcases zf (t.kind==0) with k2|k2
 · rw[k2,if_pos rfl] at hpm
   omega
 rw[k2,if_neg zb] at hpm;rcases zf (t.kind==14) with k3|k3
 · rw[k3,if_pos rfl] at hpm
   omega
 rw[k3,if_neg zb] at hpm;rcases zf (t.kind==15) with k4|k4
 · rw[k4,if_pos rfl] at hpm
   omega
 rw[k4,if_neg zb] at hpm;rcases zf (t.kind==8) with k5|k5
 · rw[k5,if_pos rfl] at hpm
   omega
 rw[k5,if_neg zb] at hpm;rcases zf (t.kind==9) with k6|k6
 · rw[k6,if_pos rfl] at hpm
   omega
 rw[k6,if_neg zb] at hpm;omega
theorem rr_k7 (hkp:partM t.kind=7):evL cfg n_aa 0 [.d t.d,.d (.sl ((b).map byteD))] []=some (resS (finR t ⟨(uM (aa b).1 1:Int),(uM (aa b).1 10 !=0),(lastM (aa f.b).1 1 0).isSome,leaf (zI (lastM (aa f.b).1 1 0)) (0) ([]),leaf (zI (lastM (aa f.b).1 2 0)) (0) ([]),false,0⟩ ((lastM (aa f.b).1 1 0).isSome==(lastM (aa f.b).1 2 0).isSome)).1 ((finR t ⟨(uM (aa b).1 1:Int),(uM (aa b).1 10 !=0),(lastM (aa f.b).1 1 0).isSome,leaf (zI (lastM (aa f.b).1 1 0)) (0) ([]),leaf (zI (lastM (aa f.b).1 2 0)) (0) ([]),false,0⟩ ((lastM (aa f.b).1 1 0).isSome==(lastM (aa f.b).1 2 0).isSome)).2:Int),[]):=by
 have hp:=al b y8;have f1:=au t.kind;have f2:=ao t.kind;have hpm:=db t.kind;have u1:=ag (aa b).1 1 hn;have u10:=ag (aa b).1 10 hn;rw[o_aa,eh];unfold cd at hp;rw[h,show((0:Nat):Int)=0 from rfl] at hp
 rw[show((1:Nat):Int)=1 from rfl] at u1
 rw[show((10:Nat):Int)=10 from rfl] at u10
 unfold uM at h2 ⊢;unfold uintD at u1 u10;have g:=ax (aa b).1 (partM t.kind).toNat hn hb;rw[hf,aas y8] at g;dsimp only at g;rw[h3,show((0:Nat):Int)=0 from rfl] at g
 have a1:=i9 (aa f.b).1 gn gu;have j1:=zI_in gu 1 0;have j2:=zI_in gu 2 0;generalize(aa b).1=fs at *;generalize(aa f.b).1=qs at *;have d1:decide ((((lastM fs 1 0).getD fld0).u:Int)>262144)=false:=by simp;omega
 have d10:=b5 ((lastM fs 10 0).getD fld0).u;generalize((lastM fs 1 0).getD fld0).u=v1 at *;generalize((lastM fs 10 0).getD fld0).u=v10 at *;have w1:IntKind.wrap .i64 (v1:Int)=v1:=az y8 y8;rcases zf (decide (t.kind≥1)&&decide (t.kind≤4)) with k0|k0
 · rw[k0,if_pos rfl] at hpm
   omega
 rw[k0,if_neg zb] at hpm;rcases zf (textK t.kind&&t.kind !=8) with k1|k1
 · rw[k1,if_pos rfl] at hpm
   omega
 rw[k1,if_neg zb] at hpm;rcases zf (t.kind==0) with k2|k2
 · rw[k2,if_pos rfl] at hpm
   omega
 rw[k2,if_neg zb] at hpm;rcases zf (t.kind==14) with k3|k3
 · rw[k3,if_pos rfl] at hpm
   omega
 rw[k3,if_neg zb] at hpm;rcases zf (t.kind==15) with k4|k4
 · rw[k4,if_pos rfl] at hpm
   rw[hpm] at g;unfold zI at *;have T:=bfr t v1 (v10 !=0) (lastM qs 1 0).isSome (zI (lastM qs 1 0)) 0 .nilS [] (zI (lastM qs 2 0)) 0 .nilS [] false 0 ((lastM qs 1 0).isSome==(lastM qs 2 0).isSome) (.sl (qs.map Fld.d)) (.bool false) ho ⟨rfl,rfl⟩ ⟨rfl,rfl⟩ j1 j2 zb zb;simp only[mT,boxT,dk,dx,List.cons_append,List.nil_append,X_aa] at T;simp(maxSteps:=2000000) (disch:=first|exact y7|fail) only[go_sem,X_aa,refB,hp,f1,f2,u1,u10,d1,d10,w1,g,a1,k0,k1,k2,k3,k4]
   exact T
 rw[k4,if_neg zb] at hpm;rcases zf (t.kind==8) with k5|k5
 · rw[k5,if_pos rfl] at hpm
   omega
 rw[k5,if_neg zb] at hpm;rcases zf (t.kind==9) with k6|k6
 · rw[k6,if_pos rfl] at hpm
   omega
 rw[k6,if_neg zb] at hpm;omega
theorem rr_k8 (hkp:partM t.kind=8):evL cfg n_aa 0 [.d t.d,.d (.sl ((b).map byteD))] []=some (resS (finR t ⟨(uM (aa b).1 1:Int),(uM (aa b).1 10 !=0),false,leaf (0) (0) ([]),leaf (0) (0) ([]),(lastM (aa f.b).1 1 0).isSome,(zI (lastM (aa f.b).1 1 0))⟩ (true)).1 ((finR t ⟨(uM (aa b).1 1:Int),(uM (aa b).1 10 !=0),false,leaf (0) (0) ([]),leaf (0) (0) ([]),(lastM (aa f.b).1 1 0).isSome,(zI (lastM (aa f.b).1 1 0))⟩ (true)).2:Int),[]):=by
 have hp:=al b y8;have f1:=au t.kind;have f2:=ao t.kind;have hpm:=db t.kind;have u1:=ag (aa b).1 1 hn;have u10:=ag (aa b).1 10 hn;rw[o_aa,eh];unfold cd at hp;rw[h,show((0:Nat):Int)=0 from rfl] at hp
 rw[show((1:Nat):Int)=1 from rfl] at u1
 rw[show((10:Nat):Int)=10 from rfl] at u10
 unfold uM at h2 ⊢;unfold uintD at u1 u10;have g:=ax (aa b).1 (partM t.kind).toNat hn hb;rw[hf,aas y8] at g;dsimp only at g;rw[h3,show((0:Nat):Int)=0 from rfl] at g
 have a2:=e9 (aa f.b).1 1 gn gu;rw[show((1:Nat):Int)=1 from rfl] at a2
 unfold intD at a2;generalize(aa b).1=fs at *;generalize(aa f.b).1=qs at *;have d1:decide ((((lastM fs 1 0).getD fld0).u:Int)>262144)=false:=by simp;omega
 have d10:=b5 ((lastM fs 10 0).getD fld0).u;generalize((lastM fs 1 0).getD fld0).u=v1 at *;generalize((lastM fs 10 0).getD fld0).u=v10 at *;have w1:IntKind.wrap .i64 (v1:Int)=v1:=az y8 y8;rcases zf (decide (t.kind≥1)&&decide (t.kind≤4)) with k0|k0
 · rw[k0,if_pos rfl] at hpm
   omega
 rw[k0,if_neg zb] at hpm;rcases zf (textK t.kind&&t.kind !=8) with k1|k1
 · rw[k1,if_pos rfl] at hpm
   omega
 rw[k1,if_neg zb] at hpm;rcases zf (t.kind==0) with k2|k2
 · rw[k2,if_pos rfl] at hpm
   omega
 rw[k2,if_neg zb] at hpm;rcases zf (t.kind==14) with k3|k3
 · rw[k3,if_pos rfl] at hpm
   omega
 rw[k3,if_neg zb] at hpm;rcases zf (t.kind==15) with k4|k4
 · rw[k4,if_pos rfl] at hpm
   omega
 rw[k4,if_neg zb] at hpm;rcases zf (t.kind==8) with k5|k5
 · rw[k5,if_pos rfl] at hpm
   rw[hpm] at g;unfold zI at *;have T:=bu t v1 (v10 !=0) false 0 0 .nilS [] 0 0 .nilS [] (lastM qs 1 0).isSome (zI (lastM qs 1 0)) true ho ⟨rfl,rfl⟩ ⟨rfl,rfl⟩ in0 in0 zb zb;simp only[mT,boxT,dk,dx,List.cons_append,List.nil_append,X_aa] at T;simp(maxSteps:=2000000) (disch:=first|exact y7|fail) only[go_sem,X_aa,refB,hp,f1,f2,u1,u10,d1,d10,w1,g,a2,k0,k1,k2,k3,k4,k5]
   exact T
 rw[k5,if_neg zb] at hpm;rcases zf (t.kind==9) with k6|k6
 · rw[k6,if_pos rfl] at hpm
   omega
 rw[k6,if_neg zb] at hpm;omega
theorem rr_k4 (hkp:partM t.kind=4):evL cfg n_aa 0 [.d t.d,.d (.sl ((b).map byteD))] []=some (resS (finR t ⟨(uM (aa b).1 1:Int),(uM (aa b).1 10 !=0),(lastM (aa f.b).1 1 2).isSome,leaf (0) (0) (((lastM (aa f.b).1 1 2).getD fld0).b),leaf (0) (0) (((lastM (aa f.b).1 2 2).getD fld0).b),(lastM (aa f.b).1 3 0).isSome,(zI (lastM (aa f.b).1 3 0))⟩ ((lastM (aa f.b).1 1 2).isSome==(lastM (aa f.b).1 2 2).isSome)).1 ((finR t ⟨(uM (aa b).1 1:Int),(uM (aa b).1 10 !=0),(lastM (aa f.b).1 1 2).isSome,leaf (0) (0) (((lastM (aa f.b).1 1 2).getD fld0).b),leaf (0) (0) (((lastM (aa f.b).1 2 2).getD fld0).b),(lastM (aa f.b).1 3 0).isSome,(zI (lastM (aa f.b).1 3 0))⟩ ((lastM (aa f.b).1 1 2).isSome==(lastM (aa f.b).1 2 2).isSome)).2:Int),[]):=by
 have hp:=al b y8;have f1:=au t.kind;have f2:=ao t.kind;have hpm:=db t.kind;have u1:=ag (aa b).1 1 hn;have u10:=ag (aa b).1 10 hn;rw[o_aa,eh];unfold cd at hp;rw[h,show((0:Nat):Int)=0 from rfl] at hp
 rw[show((1:Nat):Int)=1 from rfl] at u1
 rw[show((10:Nat):Int)=10 from rfl] at u10
 unfold uM at h2 ⊢;unfold uintD at u1 u10;have g:=ax (aa b).1 (partM t.kind).toNat hn hb;rw[hf,aas y8] at g;dsimp only at g;rw[h3,show((0:Nat):Int)=0 from rfl] at g
 have a1:=ck (aa f.b).1 1 gn;have a3:=ck (aa f.b).1 2 gn;have a2:=e9 (aa f.b).1 3 gn gu;rw[show((3:Nat):Int)=3 from rfl] at a2
 rw[show((1:Nat):Int)=1 from rfl] at a1
 rw[show((2:Nat):Int)=2 from rfl] at a3
 unfold intD at a2;unfold textD at a1 a3;have j1:=mc gb 1 2;have j2:=mc gb 2 2;generalize(aa b).1=fs at *;generalize(aa f.b).1=qs at *;have d1:decide ((((lastM fs 1 0).getD fld0).u:Int)>262144)=false:=by simp;omega
 have d10:=b5 ((lastM fs 10 0).getD fld0).u;generalize((lastM fs 1 0).getD fld0).u=v1 at *;generalize((lastM fs 10 0).getD fld0).u=v10 at *;have w1:IntKind.wrap .i64 (v1:Int)=v1:=az y8 y8;rcases zf (decide (t.kind≥1)&&decide (t.kind≤4)) with k0|k0
 · rw[k0,if_pos rfl] at hpm
   omega
 rw[k0,if_neg zb] at hpm;rcases zf (textK t.kind&&t.kind !=8) with k1|k1
 · rw[k1,if_pos rfl] at hpm
   rw[hpm] at g;unfold zI at *;have T:=bu t v1 (v10 !=0) (lastM qs 1 2).isSome 0 0 (txt ((lastM qs 1 2).getD fld0).b) ((lastM qs 1 2).getD fld0).b 0 0 (txt ((lastM qs 2 2).getD fld0).b) ((lastM qs 2 2).getD fld0).b (lastM qs 3 0).isSome (zI (lastM qs 3 0)) ((lastM qs 1 2).isSome==(lastM qs 2 2).isSome) ho ⟨rfl,rfl⟩ ⟨rfl,rfl⟩ in0 in0 j1 j2;simp only[mT,boxT,dk,dx,List.cons_append,List.nil_append,X_aa] at T;simp(maxSteps:=2000000) (disch:=first|exact y7|fail) only[go_sem,X_aa,refB,hp,f1,f2,u1,u10,d1,d10,w1,g,a1,a2,a3,k0,k1]
   exact T
 rw[k1,if_neg zb] at hpm;rcases zf (t.kind==0) with k2|k2
 · rw[k2,if_pos rfl] at hpm
   omega
 rw[k2,if_neg zb] at hpm;rcases zf (t.kind==14) with k3|k3
 · rw[k3,if_pos rfl] at hpm
   omega
 rw[k3,if_neg zb] at hpm;rcases zf (t.kind==15) with k4|k4
 · rw[k4,if_pos rfl] at hpm
   omega
 rw[k4,if_neg zb] at hpm;rcases zf (t.kind==8) with k5|k5
 · rw[k5,if_pos rfl] at hpm
   omega
 rw[k5,if_neg zb] at hpm;rcases zf (t.kind==9) with k6|k6
 · rw[k6,if_pos rfl] at hpm
   omega
 rw[k6,if_neg zb] at hpm;omega
theorem rr_k5 (hkp:partM t.kind=5):(bm 1 (aa f.b).1 []).2=0→evL cfg n_aa 0 [.d t.d,.d (.sl ((b).map byteD))] []=some (resS (finR t ⟨(uM (aa b).1 1:Int),(uM (aa b).1 10 !=0),false,leaf (0) (0) ([]),leaf (0) (0) ([]),(oneU (bm 1 (aa f.b).1 []).1).isSome,(wI (oneU (bm 1 (aa f.b).1 []).1))⟩ (fewU (bm 1 (aa f.b).1 []).1)).1 ((finR t ⟨(uM (aa b).1 1:Int),(uM (aa b).1 10 !=0),false,leaf (0) (0) ([]),leaf (0) (0) ([]),(oneU (bm 1 (aa f.b).1 []).1).isSome,(wI (oneU (bm 1 (aa f.b).1 []).1))⟩ (fewU (bm 1 (aa f.b).1 []).1)).2:Int),[]):=by
 have hp:=al b y8;have f1:=au t.kind;have f2:=ao t.kind;have hpm:=db t.kind;have u1:=ag (aa b).1 1 hn;have u10:=ag (aa b).1 10 hn;rw[o_aa,eh];unfold cd at hp;rw[h,show((0:Nat):Int)=0 from rfl] at hp
 rw[show((1:Nat):Int)=1 from rfl] at u1
 rw[show((10:Nat):Int)=10 from rfl] at u10
 unfold uM at h2 ⊢;unfold uintD at u1 u10;have g:=ax (aa b).1 (partM t.kind).toNat hn hb;rw[hf,aas y8] at g;dsimp only at g;rw[h3,show((0:Nat):Int)=0 from rfl] at g
 obtain⟨r1,r2⟩:=bo f.b;have hfb:=hb f (fa _ _ hf);have a2:=mr (aa f.b).1 1 gn (fun g hg=>aai (gb g hg) y8) (aai (wt_le gb) y8)
 rw[show((1:Nat):Int)=1 from rfl] at a2
 unfold nr at a2;intro hq;rw[hq,show((0:Nat):Int)=0 from rfl] at a2
 generalize(aa b).1=fs at *;generalize(aa f.b).1=qs at *;have d1:decide ((((lastM fs 1 0).getD fld0).u:Int)>262144)=false:=by simp;omega
 have d10:=b5 ((lastM fs 10 0).getD fld0).u;generalize((lastM fs 1 0).getD fld0).u=v1 at *;generalize((lastM fs 10 0).getD fld0).u=v10 at *;have w1:IntKind.wrap .i64 (v1:Int)=v1:=az y8 y8;rcases zf (decide (t.kind≥1)&&decide (t.kind≤4)) with k0|k0
 · rw[k0,if_pos rfl] at hpm
   omega
 rw[k0,if_neg zb] at hpm;rcases zf (textK t.kind&&t.kind !=8) with k1|k1
 · rw[k1,if_pos rfl] at hpm
   omega
 rw[k1,if_neg zb] at hpm;rcases zf (t.kind==0) with k2|k2
 · rw[k2,if_pos rfl] at hpm
   rw[hpm] at g;cases hq1:(bm 1 qs []).1 with
   | nil=>
    rw[hq1] at a2;simp only[List.map_nil,oneU,fewU,Option.isSome_none,wI] at a2 ⊢;have T:=bfq t v1 (v10 !=0) false 0 0 .nilS [] 0 0 .nilS [] false 0 true (.sl []) (.bool false) ho ⟨rfl,rfl⟩ ⟨rfl,rfl⟩ in0 in0 zb zb;simp only[mT,boxT,dk,dx,List.cons_append,List.nil_append,X_aa] at T;have d_a:decide ((0:Int)>1)=false:=rfl;simp(maxSteps:=2000000) (disch:=first|exact y7|fail) only[go_sem,X_aa,refB,hp,f1,f2,u1,u10,d1,d10,w1,g,a2,k0,k1,k2,d_a]
    exact T
   | cons u r=>
    cases r with
    | nil=>
     rw[hq1] at a2;simp only[List.map_cons,List.map_nil,uD] at a2;simp only[oneU,fewU,Option.isSome_some,wI];have d_a:decide ((1:Int)>1)=false:=rfl;rcases zf (decide (u≤262144)) with e|e
     · have d_b:decide ((u:Int)>262144)=false:=by simp at e ⊢;omega
       have T:=bu t v1 (v10 !=0) false 0 0 .nilS [] 0 0 .nilS [] true (IntKind.wrap .i64 (u:Int)) true ho ⟨rfl,rfl⟩ ⟨rfl,rfl⟩ in0 in0 zb zb;simp only[mT,boxT,dk,dx,List.cons_append,List.nil_append,X_aa] at T;simp(maxSteps:=2000000) (disch:=first|exact y7|fail) only[go_sem,X_aa,refB,hp,f1,f2,u1,u10,d1,d10,w1,g,a2,k0,k1,k2,d_a,d_b]
       rw[e];exact T
     · have d_b:decide ((u:Int)>262144)=true:=by simp at e ⊢;omega
       rw[e];unfold finR resS;rw[if_pos zb];dsimp only;rw[sv0_d];simp(maxSteps:=2000000) (disch:=first|exact y7|fail) only[go_sem,X_aa,refB,hp,f1,f2,u1,u10,d1,d10,w1,g,a2,k0,k1,k2,d_a,d_b]
       rfl
    | cons v r=>
     rw[hq1] at a2;simp only[List.map_cons,uD] at a2;simp only[oneU,fewU,Option.isSome_none,wI];have d_a:decide (((r.length+1+1:Nat):Int)>1)=true:=by simp;omega
     unfold finR resS;rw[if_pos zb];dsimp only;rw[sv0_d];simp(maxSteps:=2000000) (disch:=first|exact y7|fail) only[go_sem,X_aa,refB,hp,f1,f2,u1,u10,d1,d10,w1,g,a2,k0,k1,k2,d_a]
     rfl
 rw[k2,if_neg zb] at hpm;rcases zf (t.kind==14) with k3|k3
 · rw[k3,if_pos rfl] at hpm
   omega
 rw[k3,if_neg zb] at hpm;rcases zf (t.kind==15) with k4|k4
 · rw[k4,if_pos rfl] at hpm
   omega
 rw[k4,if_neg zb] at hpm;rcases zf (t.kind==8) with k5|k5
 · rw[k5,if_pos rfl] at hpm
   omega
 rw[k5,if_neg zb] at hpm;rcases zf (t.kind==9) with k6|k6
 · rw[k6,if_pos rfl] at hpm
   omega
 rw[k6,if_neg zb] at hpm;omega
theorem rr_k5e (hkp:partM t.kind=5):(bm 1 (aa f.b).1 []).2≠0→evL cfg n_aa 0 [.d t.d,.d (.sl ((b).map byteD))] []=some (resS sv0 ((bm 1 (aa f.b).1 []).2:Int),[]):=by
 have hp:=al b y8;have f1:=au t.kind;have f2:=ao t.kind;have hpm:=db t.kind;have u1:=ag (aa b).1 1 hn;have u10:=ag (aa b).1 10 hn;rw[o_aa,eh];unfold cd at hp;rw[h,show((0:Nat):Int)=0 from rfl] at hp
 rw[show((1:Nat):Int)=1 from rfl] at u1
 rw[show((10:Nat):Int)=10 from rfl] at u10
 unfold uM at h2;unfold uintD at u1 u10;have g:=ax (aa b).1 (partM t.kind).toNat hn hb;rw[hf,aas y8] at g;dsimp only at g;rw[h3,show((0:Nat):Int)=0 from rfl] at g
 have a2:=mr (aa f.b).1 1 gn (fun g hg=>aai (gb g hg) y8) (aai (wt_le gb) (by obtain⟨r1,r2⟩:=bo f.b;omega))
 rw[show((1:Nat):Int)=1 from rfl] at a2
 unfold nr at a2;intro hq;have e3:(((bm 1 (aa f.b).1 []).2:Int) !=0)=true:=by simp;omega
 unfold resS;rw[sv0_d];generalize(aa b).1=fs at *;generalize(aa f.b).1=qs at *;have d1:decide ((((lastM fs 1 0).getD fld0).u:Int)>262144)=false:=by simp;omega
 have d10:=b5 ((lastM fs 10 0).getD fld0).u;generalize((lastM fs 1 0).getD fld0).u=v1 at *;generalize((lastM fs 10 0).getD fld0).u=v10 at *;have w1:IntKind.wrap .i64 (v1:Int)=v1:=az y8 y8;rcases zf (decide (t.kind≥1)&&decide (t.kind≤4)) with k0|k0
 · rw[k0,if_pos rfl] at hpm
   omega
 rw[k0,if_neg zb] at hpm;rcases zf (textK t.kind&&t.kind !=8) with k1|k1
 · rw[k1,if_pos rfl] at hpm
   omega
 rw[k1,if_neg zb] at hpm;rcases zf (t.kind==0) with k2|k2
 · rw[k2,if_pos rfl] at hpm
   rw[hpm] at g;simp(maxSteps:=2000000) (disch:=first|exact y7|fail) only[go_sem,X_aa,refB,hp,f1,f2,u1,u10,d1,d10,w1,g,a2,e3,k0,k1,k2]
 rw[k2,if_neg zb] at hpm;rcases zf (t.kind==14) with k3|k3
 · rw[k3,if_pos rfl] at hpm
   omega
 rw[k3,if_neg zb] at hpm;rcases zf (t.kind==15) with k4|k4
 · rw[k4,if_pos rfl] at hpm
   omega
 rw[k4,if_neg zb] at hpm;rcases zf (t.kind==8) with k5|k5
 · rw[k5,if_pos rfl] at hpm
   omega
 rw[k5,if_neg zb] at hpm;rcases zf (t.kind==9) with k6|k6
 · rw[k6,if_pos rfl] at hpm
   omega
 rw[k6,if_neg zb] at hpm;omega
end
end
end
