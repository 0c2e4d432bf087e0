import Derived.Test.YtlcnfnjdelmkdaaGreatDoorStP
set_option linter.unusedSectionVars false
namespace Go.Proofs.YtlcnfnjdelmkdaaGreatDoor
open Go Go.Ev
set_option maxHeartbeats 8000000
theorem cl (t:List UInt8) (s:Nat):(b6 t s).2≤4:=by
 unfold b6;split
 · simp
 · split
   · simp
   · exact(xl _ _ 0 in0).2
section
variable (t:Ty) (b:List UInt8) (hl:b.length≤2000)
include hl
theorem rr_e1 (h:(aa b).2≠0):evL cfg n_aa 0 [.d t.d,.d (.sl ((b).map byteD))] []=some (resS sv0 ((aa b).2:Int),[]):=by
 have hp:=al b y8;have f1:=au t.kind;have f2:=ao t.kind;have hpm:=db t.kind;rw[o_aa,eh];unfold resS;rw[sv0_d];unfold cd at hp;have e3:(((aa b).2:Int) !=0)=true:=by simp;omega
 generalize aa b=q at *;simp(maxSteps:=2000000) (disch:=first|exact y7|fail) only[go_sem,X_aa,refB,hp,e3]
theorem rr_e2 (h:(aa b).2=0) (h2:262144<uM (aa b).1 1) (hn:(aa b).1.length≤1000000):evL cfg n_aa 0 [.d t.d,.d (.sl ((b).map byteD))] []=some (resS sv0 2,[]):=by
 have hp:=al b y8;have f1:=au t.kind;have f2:=ao t.kind;have hpm:=db t.kind;have u1:=ag (aa b).1 1 hn;rw[o_aa,eh];unfold resS;rw[sv0_d];unfold cd at hp;rw[h,show((0:Nat):Int)=0 from rfl] at hp
 rw[show((1:Nat):Int)=1 from rfl] at u1
 unfold uM at h2;unfold uintD at u1;generalize(aa b).1=fs at *;have d1:decide ((((lastM fs 1 0).getD fld0).u:Int)>262144)=true:=by simp;omega
 simp(maxSteps:=2000000) (disch:=first|exact y7|fail) only[go_sem,X_aa,refB,hp,u1,d1]
section
variable (h:(aa b).2=0) (h2:uM (aa b).1 1≤262144) (hn:(aa b).1.length≤1000000) (hb:∀ f∈(aa b).1,f.b.length≤1000000)
include h h2 hn hb
theorem rr_zero (hk:partM t.kind=0):evL cfg n_aa 0 [.d t.d,.d (.sl ((b).map byteD))] []=some (resS ⟨(uM (aa b).1 1:Int),uM (aa b).1 10 !=0,false,va0,va0,false,0⟩ 0,[]):=by
 have hp:=al b y8;have f1:=au t.kind;have f2:=ao t.kind;have hpm:=db t.kind;have u1:=ag (aa b).1 1 hn;have u10:=ag (aa b).1 10 hn;rw[o_aa,eh];unfold cd at hp;rw[h,show((0:Nat):Int)=0 from rfl] at hp
 rw[show((1:Nat):Int)=1 from rfl] at u1
 rw[show((10:Nat):Int)=10 from rfl] at u10
 unfold uM at h2 ⊢;unfold uintD at u1 u10;unfold resS;generalize(aa b).1=fs at *;have d1:decide ((((lastM fs 1 0).getD fld0).u:Int)>262144)=false:=by simp;omega
 have d10:=b5 ((lastM fs 10 0).getD fld0).u;generalize((lastM fs 1 0).getD fld0).u=v1 at *;generalize((lastM fs 10 0).getD fld0).u=v10 at *;have w1:IntKind.wrap .i64 (v1:Int)=v1:=az y8 y8;rcases zf (decide (t.kind≥1)&&decide (t.kind≤4)) with k0|k0
 · rw[k0,if_pos rfl] at hpm
   omega
 rw[k0,if_neg zb] at hpm;rcases zf (textK t.kind&&t.kind !=8) with k1|k1
 · rw[k1,if_pos rfl] at hpm
   omega
 rw[k1,if_neg zb] at hpm;rcases zf (t.kind==0) with k2|k2
 · rw[k2,if_pos rfl] at hpm
   omega
 rw[k2,if_neg zb] at hpm;rcases zf (t.kind==14) with k3|k3
 · rw[k3,if_pos rfl] at hpm
   omega
 rw[k3,if_neg zb] at hpm;rcases zf (t.kind==15) with k4|k4
 · rw[k4,if_pos rfl] at hpm
   omega
 rw[k4,if_neg zb] at hpm;rcases zf (t.kind==8) with k5|k5
 · rw[k5,if_pos rfl] at hpm
   omega
 rw[k5,if_neg zb] at hpm;rcases zf (t.kind==9) with k6|k6
 · rw[k6,if_pos rfl] at hpm
   omega
 rw[k6,if_neg zb] at hpm;simp(maxSteps:=2000000) (disch:=first|exact y7|fail) only[go_sem,X_aa,refB,hp,f1,f2,u1,u10,d1,d10,w1,k0,k1,k2,k3,k4,k5,k6]
 rfl
theorem rr_none (hk:0<partM t.kind) (hf:lastM (aa b).1 (partM t.kind).toNat 2=none):evL cfg n_aa 0 [.d t.d,.d (.sl ((b).map byteD))] []=some (resS ⟨(uM (aa b).1 1:Int),uM (aa b).1 10 !=0,false,va0,va0,false,0⟩ 0,[]):=by
 have hp:=al b y8;have f1:=au t.kind;have f2:=ao t.kind;have hpm:=db t.kind;have u1:=ag (aa b).1 1 hn;have u10:=ag (aa b).1 10 hn;rw[o_aa,eh];unfold cd at hp;rw[h,show((0:Nat):Int)=0 from rfl] at hp
 rw[show((1:Nat):Int)=1 from rfl] at u1
 rw[show((10:Nat):Int)=10 from rfl] at u10
 unfold uM at h2 ⊢;unfold uintD at u1 u10;have g:=ax (aa b).1 (partM t.kind).toNat hn hb;rw[hf,aas y8] at g;dsimp only at g;unfold resS;generalize(aa b).1=fs at *;have d1:decide ((((lastM fs 1 0).getD fld0).u:Int)>262144)=false:=by simp;omega
 have d10:=b5 ((lastM fs 10 0).getD fld0).u;generalize((lastM fs 1 0).getD fld0).u=v1 at *;generalize((lastM fs 10 0).getD fld0).u=v10 at *;have w1:IntKind.wrap .i64 (v1:Int)=v1:=az y8 y8;rcases zf (decide (t.kind≥1)&&decide (t.kind≤4)) with k0|k0
 · rw[k0,if_pos rfl] at hpm
   rw[hpm] at g;simp(maxSteps:=2000000) (disch:=first|exact y7|fail) only[go_sem,X_aa,refB,hp,f1,f2,u1,u10,d1,d10,w1,g,k0]
   rfl
 rw[k0,if_neg zb] at hpm;rcases zf (textK t.kind&&t.kind !=8) with k1|k1
 · rw[k1,if_pos rfl] at hpm
   rw[hpm] at g;simp(maxSteps:=2000000) (disch:=first|exact y7|fail) only[go_sem,X_aa,refB,hp,f1,f2,u1,u10,d1,d10,w1,g,k0,k1]
   rfl
 rw[k1,if_neg zb] at hpm;rcases zf (t.kind==0) with k2|k2
 · rw[k2,if_pos rfl] at hpm
   rw[hpm] at g;simp(maxSteps:=2000000) (disch:=first|exact y7|fail) only[go_sem,X_aa,refB,hp,f1,f2,u1,u10,d1,d10,w1,g,k0,k1,k2]
   rfl
 rw[k2,if_neg zb] at hpm;rcases zf (t.kind==14) with k3|k3
 · rw[k3,if_pos rfl] at hpm
   rw[hpm] at g;simp(maxSteps:=2000000) (disch:=first|exact y7|fail) only[go_sem,X_aa,refB,hp,f1,f2,u1,u10,d1,d10,w1,g,k0,k1,k2,k3]
   rfl
 rw[k3,if_neg zb] at hpm;rcases zf (t.kind==15) with k4|k4
 · rw[k4,if_pos rfl] at hpm
   rw[hpm] at g;simp(maxSteps:=2000000) (disch:=first|exact y7|fail) only[go_sem,X_aa,refB,hp,f1,f2,u1,u10,d1,d10,w1,g,k0,k1,k2,k3,k4]
   rfl
 rw[k4,if_neg zb] at hpm;rcases zf (t.kind==8) with k5|k5
 · rw[k5,if_pos rfl] at hpm
   rw[hpm] at g;simp(maxSteps:=2000000) (disch:=first|exact y7|fail) only[go_sem,X_aa,refB,hp,f1,f2,u1,u10,d1,d10,w1,g,k0,k1,k2,k3,k4,k5]
   rfl
 rw[k5,if_neg zb] at hpm;rcases zf (t.kind==9) with k6|k6
 · rw[k6,if_pos rfl] at hpm
   rw[hpm] at g;simp(maxSteps:=2000000) (disch:=first|exact y7|fail) only[go_sem,X_aa,refB,hp,f1,f2,u1,u10,d1,d10,w1,g,k0,k1,k2,k3,k4,k5,k6]
   rfl
 rw[k6,if_neg zb] at hpm;omega
section
variable {f:Fld} (hk:0<partM t.kind) (hf:lastM (aa b).1 (partM t.kind).toNat 2=some f)
include hk hf
theorem rr_e3 (h3:(aa f.b).2≠0):evL cfg n_aa 0 [.d t.d,.d (.sl ((b).map byteD))] []=some (resS sv0 ((aa f.b).2:Int),[]):=by
 have hp:=al b y8;have f1:=au t.kind;have f2:=ao t.kind;have hpm:=db t.kind;have u1:=ag (aa b).1 1 hn;have u10:=ag (aa b).1 10 hn;rw[o_aa,eh];unfold cd at hp;rw[h,show((0:Nat):Int)=0 from rfl] at hp
 rw[show((1:Nat):Int)=1 from rfl] at u1
 rw[show((10:Nat):Int)=10 from rfl] at u10
 unfold uM at h2;unfold uintD at u1 u10;have g:=ax (aa b).1 (partM t.kind).toNat hn hb;rw[hf,aas y8] at g;dsimp only at g;unfold resS;rw[sv0_d];have e3:(((aa f.b).2:Int) !=0)=true:=by simp;omega
 generalize(aa b).1=fs at *;generalize aa f.b=q at *;have d1:decide ((((lastM fs 1 0).getD fld0).u:Int)>262144)=false:=by simp;omega
 have d10:=b5 ((lastM fs 10 0).getD fld0).u;generalize((lastM fs 1 0).getD fld0).u=v1 at *;generalize((lastM fs 10 0).getD fld0).u=v10 at *;have w1:IntKind.wrap .i64 (v1:Int)=v1:=az y8 y8;rcases zf (decide (t.kind≥1)&&decide (t.kind≤4)) with k0|k0
 · rw[k0,if_pos rfl] at hpm
   rw[hpm] at g;simp(maxSteps:=2000000) (disch:=first|exact y7|fail) only[go_sem,X_aa,refB,hp,f1,f2,u1,u10,d1,d10,w1,g,e3,k0]
 rw[k0,if_neg zb] at hpm;rcases zf (textK t.kind&&t.kind !=8) with k1|k1
 · rw[k1,if_pos rfl] at hpm
   rw[hpm] at g;simp(maxSteps:=2000000) (disch:=first|exact y7|fail) only[go_sem,X_aa,refB,hp,f1,f2,u1,u10,d1,d10,w1,g,e3,k0,k1]
 rw[k1,if_neg zb] at hpm;rcases zf (t.kind==0) with k2|k2
 · rw[k2,if_pos rfl] at hpm
   rw[hpm] at g;simp(maxSteps:=2000000) (disch:=first|exact y7|fail) only[go_sem,X_aa,refB,hp,f1,f2,u1,u10,d1,d10,w1,g,e3,k0,k1,k2]
 rw[k2,if_neg zb] at hpm;rcases zf (t.kind==14) with k3|k3
 · rw[k3,if_pos rfl] at hpm
   rw[hpm] at g;simp(maxSteps:=2000000) (disch:=first|exact y7|fail) only[go_sem,X_aa,refB,hp,f1,f2,u1,u10,d1,d10,w1,g,e3,k0,k1,k2,k3]
 rw[k3,if_neg zb] at hpm;rcases zf (t.kind==15) with k4|k4
 · rw[k4,if_pos rfl] at hpm
   rw[hpm] at g;simp(maxSteps:=2000000) (disch:=first|exact y7|fail) only[go_sem,X_aa,refB,hp,f1,f2,u1,u10,d1,d10,w1,g,e3,k0,k1,k2,k3,k4]
 rw[k4,if_neg zb] at hpm;rcases zf (t.kind==8) with k5|k5
 · rw[k5,if_pos rfl] at hpm
   rw[hpm] at g;simp(maxSteps:=2000000) (disch:=first|exact y7|fail) only[go_sem,X_aa,refB,hp,f1,f2,u1,u10,d1,d10,w1,g,e3,k0,k1,k2,k3,k4,k5]
 rw[k5,if_neg zb] at hpm;rcases zf (t.kind==9) with k6|k6
 · rw[k6,if_pos rfl] at hpm
   rw[hpm] at g;simp(maxSteps:=2000000) (disch:=first|exact y7|fail) only[go_sem,X_aa,refB,hp,f1,f2,u1,u10,d1,d10,w1,g,e3,k0,k1,k2,k3,k4,k5,k6]
 rw[k6,if_neg zb] at hpm;omega
end
end
end
