import Derived.Test.YtlcnfnjdelmkdaaGreatDoorStR
set_option linter.unusedSectionVars false
namespace Go.Proofs.YtlcnfnjdelmkdaaGreatDoor
open Go Go.Ev
set_option maxHeartbeats 8000000
set_option maxRecDepth 10000
theorem lq (t:Ty) (s:Sv):finR t s false=(sv0,2):=if_pos zb
section
variable (t:Ty) (b:List UInt8) (hl:b.length≤2000)
include hl
section
variable (h:(aa b).2=0) (h2:uM (aa b).1 1≤262144) (hn:(aa b).1.length≤1000000) (hb:∀ f∈(aa b).1,f.b.length≤1000000)
include h h2 hn hb
section
variable {f:Fld} (hk:0<partM t.kind) (hf:lastM (aa b).1 (partM t.kind).toNat 2=some f) (h3:(aa f.b).2=0) (gn:(aa f.b).1.length≤1000000) (gb:∀ g∈(aa f.b).1,g.b.length≤4000) (gu:∀ g∈(aa f.b).1,g.u<18446744073709551616) (ho:ownM t=0) (sc:Nat) (hsc:t.scale=(sc:Int)) (hs:sc≤18)
include hk hf h3 gn gb gu ho hsc hs
theorem rr_k6 (hkp:partM t.kind=6):evL cfg n_aa 0 [.d t.d,.d (.sl ((b).map byteD))] []=some (resS (finR t ⟨(uM (aa b).1 1:Int),(uM (aa b).1 10 !=0),(lastM (aa f.b).1 1 2).isSome,leaf (xI sc (lastM (aa f.b).1 1 2)) (0) ([]),leaf (xI sc (lastM (aa f.b).1 2 2)) (0) ([]),(lastM (aa f.b).1 3 2).isSome,(xI sc (lastM (aa f.b).1 3 2))⟩ (exOk sc (lastM (aa f.b).1 1 2)&&exOk sc (lastM (aa f.b).1 2 2)&&((lastM (aa f.b).1 1 2).isSome==(lastM (aa f.b).1 2 2).isSome)&&exOk sc (lastM (aa f.b).1 3 2))).1 ((finR t ⟨(uM (aa b).1 1:Int),(uM (aa b).1 10 !=0),(lastM (aa f.b).1 1 2).isSome,leaf (xI sc (lastM (aa f.b).1 1 2)) (0) ([]),leaf (xI sc (lastM (aa f.b).1 2 2)) (0) ([]),(lastM (aa f.b).1 3 2).isSome,(xI sc (lastM (aa f.b).1 3 2))⟩ (exOk sc (lastM (aa f.b).1 1 2)&&exOk sc (lastM (aa f.b).1 2 2)&&((lastM (aa f.b).1 1 2).isSome==(lastM (aa f.b).1 2 2).isSome)&&exOk sc (lastM (aa f.b).1 3 2))).2:Int),[]):=by
 have hp:=al b y8;have f1:=au t.kind;have f2:=ao t.kind;have hpm:=db t.kind;have u1:=ag (aa b).1 1 hn;have u10:=ag (aa b).1 10 hn;rw[o_aa,eh];unfold cd at hp;rw[h,show((0:Nat):Int)=0 from rfl] at hp
 rw[show((1:Nat):Int)=1 from rfl] at u1
 rw[show((10:Nat):Int)=10 from rfl] at u10
 unfold uM at h2 ⊢;unfold uintD at u1 u10;have g:=ax (aa b).1 (partM t.kind).toNat hn hb;rw[hf,aas y8] at g;dsimp only at g;rw[h3,show((0:Nat):Int)=0 from rfl] at g
 have a1:=ck (aa f.b).1 1 gn;rw[show((1:Nat):Int)=1 from rfl] at a1
 unfold textD at a1;have p1:=fun(g:Fld) (e:lastM (aa f.b).1 1 2=some g)=>gq (gb g (fa _ _ e)) hs
 have a2:=ck (aa f.b).1 2 gn;rw[show((2:Nat):Int)=2 from rfl] at a2
 unfold textD at a2;have p2:=fun(g:Fld) (e:lastM (aa f.b).1 2 2=some g)=>gq (gb g (fa _ _ e)) hs
 have a3:=ck (aa f.b).1 3 gn;rw[show((3:Nat):Int)=3 from rfl] at a3
 unfold textD at a3;have p3:=fun(g:Fld) (e:lastM (aa f.b).1 3 2=some g)=>gq (gb g (fa _ _ e)) hs
 generalize(aa b).1=fs at *;generalize(aa f.b).1=qs at *;have d1:decide ((((lastM fs 1 0).getD fld0).u:Int)>262144)=false:=by simp;omega
 have d10:=b5 ((lastM fs 10 0).getD fld0).u;generalize((lastM fs 1 0).getD fld0).u=v1 at *;generalize((lastM fs 10 0).getD fld0).u=v10 at *;have w1:IntKind.wrap .i64 (v1:Int)=v1:=az y8 y8;rcases zf (decide (t.kind≥1)&&decide (t.kind≤4)) with k0|k0
 · rw[k0,if_pos rfl] at hpm
   omega
 rw[k0,if_neg zb] at hpm;rcases zf (textK t.kind&&t.kind !=8) with k1|k1
 · rw[k1,if_pos rfl] at hpm
   omega
 rw[k1,if_neg zb] at hpm;rcases zf (t.kind==0) with k2|k2
 · rw[k2,if_pos rfl] at hpm
   omega
 rw[k2,if_neg zb] at hpm;rcases zf (t.kind==14) with k3|k3
 · rw[k3,if_pos rfl] at hpm
   rw[hpm] at g;cases h1:lastM qs 1 2 with
   | none=>
    cases h2:lastM qs 2 2 with
    | none=>
     cases h3:lastM qs 3 2 with
     | none=>
      simp only[xI,exOk,Option.isSome_some,Option.isSome_none];rw[h1] at a1;simp only[Option.getD_none,Option.isSome_none] at a1;rw[h2] at a2;simp only[Option.getD_none,Option.isSome_none] at a2;rw[h3] at a3;simp only[Option.getD_none,Option.isSome_none] at a3;have T:=bu t v1 (v10 !=0) false (0) 0 .nilS [] (0) 0 .nilS [] false (0) (true) ho ⟨rfl,rfl⟩ ⟨rfl,rfl⟩ in0 in0 zb zb;simp only[mT,boxT,dk,dx,List.cons_append,List.nil_append,X_aa,hsc] at T;simp only[beq_self_eq_true,Bool.and_true,Bool.true_and];simp(maxSteps:=2000000) (disch:=first|exact y7|fail) only[go_sem,X_aa,refB,hp,f1,f2,u1,u10,d1,d10,w1,g,k0,k1,k2,k3,a1,a2,a3,hsc]
      exact T
     | some g3=>
      simp only[xI,exOk,Option.isSome_some,Option.isSome_none];rw[h1] at a1;simp only[Option.getD_none,Option.isSome_none] at a1;rw[h2] at a2;simp only[Option.getD_none,Option.isSome_none] at a2;rw[h3] at a3;have q3:=p3 g3 h3;have l3:=cl g3.b sc;simp only[Option.getD_some,Option.isSome_some] at a3;generalize b6 g3.b sc=y3 at *;have be:((((y3.2:Int)):Int)==0)=((y3.2==0)):=by rw[aal];simp only[aaa,zw];omega
      have bf:(((0:Int)+(y3.2:Int))==0)=((y3.2==0)):=by rw[aal];simp only[aaa,zw];omega
      have T:=bu t v1 (v10 !=0) false (0) 0 .nilS [] (0) 0 .nilS [] true (y3.1) ((y3.2==0)) ho ⟨rfl,rfl⟩ ⟨rfl,rfl⟩ in0 in0 zb zb;simp only[mT,boxT,dk,dx,List.cons_append,List.nil_append,X_aa,hsc] at T;simp only[beq_self_eq_true,Bool.and_true,Bool.true_and];simp(maxSteps:=2000000) (disch:=first|exact y7|fail) only[go_sem,X_aa,refB,hp,f1,f2,u1,u10,d1,d10,w1,g,k0,k1,k2,k3,a1,a2,a3,hsc,q3,be,bf]
      exact T
    | some g2=>
     cases h3:lastM qs 3 2 with
     | none=>
      simp only[xI,exOk,Option.isSome_some,Option.isSome_none];rw[h1] at a1;simp only[Option.getD_none,Option.isSome_none] at a1;rw[h2] at a2;have q2:=p2 g2 h2;have l2:=cl g2.b sc;simp only[Option.getD_some,Option.isSome_some] at a2;generalize b6 g2.b sc=y2 at *;rw[h3] at a3;simp only[Option.getD_none,Option.isSome_none] at a3;have T:=bu t v1 (v10 !=0) false 0 0 .nilS [] 0 0 .nilS [] false (0) false ho ⟨rfl,rfl⟩ ⟨rfl,rfl⟩ in0 in0 zb zb;rw[lq] at T;simp only[mT,boxT,dk,dx,List.cons_append,List.nil_append,X_aa,hsc] at T;rw[show(true&&(y2.2==0)&&(false==true)&&true)=false from by simp,lq]
      simp(maxSteps:=2000000) (disch:=first|exact y7|fail) only[go_sem,X_aa,refB,hp,f1,f2,u1,u10,d1,d10,w1,g,k0,k1,k2,k3,a1,a2,a3,hsc,q2]
      exact T
     | some g3=>
      simp only[xI,exOk,Option.isSome_some,Option.isSome_none];rw[h1] at a1;simp only[Option.getD_none,Option.isSome_none] at a1;rw[h2] at a2;have q2:=p2 g2 h2;have l2:=cl g2.b sc;simp only[Option.getD_some,Option.isSome_some] at a2;generalize b6 g2.b sc=y2 at *;rw[h3] at a3;have q3:=p3 g3 h3;have l3:=cl g3.b sc;simp only[Option.getD_some,Option.isSome_some] at a3;generalize b6 g3.b sc=y3 at *;have T:=bu t v1 (v10 !=0) false 0 0 .nilS [] 0 0 .nilS [] true (y3.1) false ho ⟨rfl,rfl⟩ ⟨rfl,rfl⟩ in0 in0 zb zb;rw[lq] at T;simp only[mT,boxT,dk,dx,List.cons_append,List.nil_append,X_aa,hsc] at T;rw[show(true&&(y2.2==0)&&(false==true)&&(y3.2==0))=false from by simp,lq]
      simp(maxSteps:=2000000) (disch:=first|exact y7|fail) only[go_sem,X_aa,refB,hp,f1,f2,u1,u10,d1,d10,w1,g,k0,k1,k2,k3,a1,a2,a3,hsc,q2,q3]
      exact T
   | some g1=>
    cases h2:lastM qs 2 2 with
    | none=>
     cases h3:lastM qs 3 2 with
     | none=>
      simp only[xI,exOk,Option.isSome_some,Option.isSome_none];rw[h1] at a1;have q1:=p1 g1 h1;have l1:=cl g1.b sc;simp only[Option.getD_some,Option.isSome_some] at a1;generalize b6 g1.b sc=y1 at *;rw[h2] at a2;simp only[Option.getD_none,Option.isSome_none] at a2;rw[h3] at a3;simp only[Option.getD_none,Option.isSome_none] at a3;have T:=bu t v1 (v10 !=0) true 0 0 .nilS [] 0 0 .nilS [] false (0) false ho ⟨rfl,rfl⟩ ⟨rfl,rfl⟩ in0 in0 zb zb;rw[lq] at T;simp only[mT,boxT,dk,dx,List.cons_append,List.nil_append,X_aa,hsc] at T;rw[show((y1.2==0)&&true&&(true==false)&&true)=false from by simp,lq]
      simp(maxSteps:=2000000) (disch:=first|exact y7|fail) only[go_sem,X_aa,refB,hp,f1,f2,u1,u10,d1,d10,w1,g,k0,k1,k2,k3,a1,a2,a3,hsc,q1]
      exact T
     | some g3=>
      simp only[xI,exOk,Option.isSome_some,Option.isSome_none];rw[h1] at a1;have q1:=p1 g1 h1;have l1:=cl g1.b sc;simp only[Option.getD_some,Option.isSome_some] at a1;generalize b6 g1.b sc=y1 at *;rw[h2] at a2;simp only[Option.getD_none,Option.isSome_none] at a2;rw[h3] at a3;have q3:=p3 g3 h3;have l3:=cl g3.b sc;simp only[Option.getD_some,Option.isSome_some] at a3;generalize b6 g3.b sc=y3 at *;have T:=bu t v1 (v10 !=0) true 0 0 .nilS [] 0 0 .nilS [] true (y3.1) false ho ⟨rfl,rfl⟩ ⟨rfl,rfl⟩ in0 in0 zb zb;rw[lq] at T;simp only[mT,boxT,dk,dx,List.cons_append,List.nil_append,X_aa,hsc] at T;rw[show((y1.2==0)&&true&&(true==false)&&(y3.2==0))=false from by simp,lq]
      simp(maxSteps:=2000000) (disch:=first|exact y7|fail) only[go_sem,X_aa,refB,hp,f1,f2,u1,u10,d1,d10,w1,g,k0,k1,k2,k3,a1,a2,a3,hsc,q1,q3]
      exact T
    | some g2=>
     cases h3:lastM qs 3 2 with
     | none=>
      simp only[xI,exOk,Option.isSome_some,Option.isSome_none];rw[h1] at a1;have q1:=p1 g1 h1;have l1:=cl g1.b sc;simp only[Option.getD_some,Option.isSome_some] at a1;have j1:=k8 g1.b sc;have j2:=k8 g2.b sc;generalize b6 g1.b sc=y1 at *;rw[h2] at a2;have q2:=p2 g2 h2;have l2:=cl g2.b sc;simp only[Option.getD_some,Option.isSome_some] at a2;generalize b6 g2.b sc=y2 at *;rw[h3] at a3;simp only[Option.getD_none,Option.isSome_none] at a3;have be:((((y1.2:Int)+(y2.2:Int)):Int)==0)=((y1.2==0)&&(y2.2==0)):=by rw[aal];simp only[aaa,zw];omega
      have T:=bu t v1 (v10 !=0) true (y1.1) 0 .nilS [] (y2.1) 0 .nilS [] false (0) ((y1.2==0)&&(y2.2==0)) ho ⟨rfl,rfl⟩ ⟨rfl,rfl⟩ j1 j2 zb zb;simp only[mT,boxT,dk,dx,List.cons_append,List.nil_append,X_aa,hsc] at T;simp only[beq_self_eq_true,Bool.and_true,Bool.true_and];simp(maxSteps:=2000000) (disch:=first|exact y7|fail) only[go_sem,X_aa,refB,hp,f1,f2,u1,u10,d1,d10,w1,g,k0,k1,k2,k3,a1,a2,a3,hsc,q1,q2,be]
      exact T
     | some g3=>
      simp only[xI,exOk,Option.isSome_some,Option.isSome_none];rw[h1] at a1;have q1:=p1 g1 h1;have l1:=cl g1.b sc;simp only[Option.getD_some,Option.isSome_some] at a1;have j1:=k8 g1.b sc;have j2:=k8 g2.b sc;generalize b6 g1.b sc=y1 at *;rw[h2] at a2;have q2:=p2 g2 h2;have l2:=cl g2.b sc;simp only[Option.getD_some,Option.isSome_some] at a2;generalize b6 g2.b sc=y2 at *;rw[h3] at a3;have q3:=p3 g3 h3;have l3:=cl g3.b sc;simp only[Option.getD_some,Option.isSome_some] at a3;generalize b6 g3.b sc=y3 at *;have be:((((y1.2:Int)+(y2.2:Int)+(y3.2:Int)):Int)==0)=((y1.2==0)&&(y2.2==0)&&(y3.2==0)):=by rw[aal];simp only[aaa,zw];omega
      have T:=bu t v1 (v10 !=0) true (y1.1) 0 .nilS [] (y2.1) 0 .nilS [] true (y3.1) ((y1.2==0)&&(y2.2==0)&&(y3.2==0)) ho ⟨rfl,rfl⟩ ⟨rfl,rfl⟩ j1 j2 zb zb;simp only[mT,boxT,dk,dx,List.cons_append,List.nil_append,X_aa,hsc] at T;simp only[beq_self_eq_true,Bool.and_true,Bool.true_and];simp(maxSteps:=2000000) (disch:=first|exact y7|fail) only[go_sem,X_aa,refB,hp,f1,f2,u1,u10,d1,d10,w1,g,k0,k1,k2,k3,a1,a2,a3,hsc,q1,q2,q3,be]
      exact T
 rw[k3,if_neg zb] at hpm;rcases zf (t.kind==15) with k4|k4
 · rw[k4,if_pos rfl] at hpm
   omega
 rw[k4,if_neg zb] at hpm;rcases zf (t.kind==8) with k5|k5
 · rw[k5,if_pos rfl] at hpm
   omega
 rw[k5,if_neg zb] at hpm;rcases zf (t.kind==9) with k6|k6
 · rw[k6,if_pos rfl] at hpm
   omega
 rw[k6,if_neg zb] at hpm;omega
end
end
end
