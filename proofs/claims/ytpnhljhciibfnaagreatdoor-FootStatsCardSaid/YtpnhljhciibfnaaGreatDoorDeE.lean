import Derived.Test.YtpnhljhciibfnaaGreatDoorStR
set_option linter.unusedSimpArgs false
set_option linter.unusedSectionVars false
namespace Go.Proofs.YtpnhljhciibfnaaGreatDoor
open Go Go.Ev
set_option maxHeartbeats 8000000
set_option maxRecDepth 10000
theorem mr (t:Ty) (s:Sv):BQ t s false=(sv0,2):=if_pos aa3
section
variable (t:Ty) (b:List UInt8) (hl:b.length≤2000)
include hl
section
variable (h:(aa b).2=0) (h2:uM (aa b).1 1≤262144) (hn:(aa b).1.length≤1000000) (hb:∀ f∈(aa b).1,f.b.length≤1000000)
include h h2 hn hb
section
variable {f:Fld} (hk:0<AL t.kind) (hf:AA (aa b).1 (AL t.kind).toNat 2=some f) (h3:(aa f.b).2=0) (gn:(aa f.b).1.length≤1000000) (gb:∀ g∈(aa f.b).1,g.b.length≤4000) (gu:∀ g∈(aa f.b).1,g.u<18446744073709551616) (ho:BT t=0) (sc:Nat) (hsc:t.scale=(sc:Int)) (hs:sc≤18)
include hk hf h3 gn gb gu ho hsc hs
theorem rr_k6 (hkp:AL t.kind=6):evL cfg Dq 0 [.d t.d,.d (.sl ((b).map AM))] []=some (A6 (BQ t ⟨(uM (aa b).1 1:Int),(uM (aa b).1 10 !=0),(AA (aa f.b).1 1 2).isSome,leaf (xI sc (AA (aa f.b).1 1 2)) (0) ([]),leaf (xI sc (AA (aa f.b).1 2 2)) (0) ([]),(AA (aa f.b).1 3 2).isSome,(xI sc (AA (aa f.b).1 3 2))⟩ (B6 sc (AA (aa f.b).1 1 2)&&B6 sc (AA (aa f.b).1 2 2)&&((AA (aa f.b).1 1 2).isSome==(AA (aa f.b).1 2 2).isSome)&&B6 sc (AA (aa f.b).1 3 2))).1 ((BQ t ⟨(uM (aa b).1 1:Int),(uM (aa b).1 10 !=0),(AA (aa f.b).1 1 2).isSome,leaf (xI sc (AA (aa f.b).1 1 2)) (0) ([]),leaf (xI sc (AA (aa f.b).1 2 2)) (0) ([]),(AA (aa f.b).1 3 2).isSome,(xI sc (AA (aa f.b).1 3 2))⟩ (B6 sc (AA (aa f.b).1 1 2)&&B6 sc (AA (aa f.b).1 2 2)&&((AA (aa f.b).1 1 2).isSome==(AA (aa f.b).1 2 2).isSome)&&B6 sc (AA (aa f.b).1 3 2))).2:Int),[]):=by
 have hp:=al b aa1;have f1:=am t.kind;have f2:=ai t.kind;have hpm:=df t.kind;have u1:=ae (aa b).1 1 hn;have u10:=ae (aa b).1 10 hn;rw[FR,fj];unfold dh at hp;rw[h,show((0:Nat):Int)=0 from rfl] at hp
 rw[show((1:Nat):Int)=1 from rfl] at u1
 rw[show((10:Nat):Int)=10 from rfl] at u10
 unfold uM at h2 ⊢;unfold Bh at u1 u10;have g:=aw (aa b).1 (AL t.kind).toNat hn hb;rw[hf,abs aa1] at g;dsimp only at g;rw[h3,show((0:Nat):Int)=0 from rfl] at g
 have a1:=dw (aa f.b).1 1 gn;rw[show((1:Nat):Int)=1 from rfl] at a1
 unfold Cf at a1;have p1:=fun(g:Fld) (e:AA (aa f.b).1 1 2=some g)=>iq (gb g (iw _ _ e)) hs
 have a2:=dw (aa f.b).1 2 gn;rw[show((2:Nat):Int)=2 from rfl] at a2
 unfold Cf at a2;have p2:=fun(g:Fld) (e:AA (aa f.b).1 2 2=some g)=>iq (gb g (iw _ _ e)) hs
 have a3:=dw (aa f.b).1 3 gn;rw[show((3:Nat):Int)=3 from rfl] at a3
 unfold Cf at a3;have p3:=fun(g:Fld) (e:AA (aa f.b).1 3 2=some g)=>iq (gb g (iw _ _ e)) hs
 generalize(aa b).1=fs at *;generalize(aa f.b).1=qs at *;have d1:decide ((((AA fs 1 0).getD Af).u:Int)>262144)=false:=by simp;omega
 have d10:=cc ((AA fs 10 0).getD Af).u;generalize((AA fs 1 0).getD Af).u=v1 at *;generalize((AA fs 10 0).getD Af).u=v10 at *;have w1:IntKind.wrap .i64 (v1:Int)=v1:=au aa1 aa1;rcases aa5 (decide (t.kind≥1)&&decide (t.kind≤4)) with k0|k0
 · rw[k0,if_pos rfl] at hpm
   omega
 rw[k0,if_neg aa3] at hpm;rcases aa5 (BV t.kind&&t.kind !=8) with k1|k1
 · rw[k1,if_pos rfl] at hpm
   omega
 rw[k1,if_neg aa3] at hpm;rcases aa5 (t.kind==0) with k2|k2
 · rw[k2,if_pos rfl] at hpm
   omega
 rw[k2,if_neg aa3] at hpm;rcases aa5 (t.kind==14) with k3|k3
 · rw[k3,if_pos rfl] at hpm
   rw[hpm] at g;cases h1:AA qs 1 2 with
   | none=>
    cases h2:AA qs 2 2 with
    | none=>
     cases h3:AA qs 3 2 with
     | none=>
      simp only[xI,B6,Option.isSome_some,Option.isSome_none];rw[h1] at a1;simp only[Option.getD_none,Option.isSome_none] at a1;rw[h2] at a2;simp only[Option.getD_none,Option.isSome_none] at a2;rw[h3] at a3;simp only[Option.getD_none,Option.isSome_none] at a3;have T:=bz t v1 (v10 !=0) false (0) 0 .AB [] (0) 0 .AB [] false (0) (true) ho ⟨rfl,rfl⟩ ⟨rfl,rfl⟩ in0 in0 aa3 aa3;simp only[mT,Au,ef,fc,List.cons_append,List.nil_append,Aw,hsc] at T;simp only[beq_self_eq_true,Bool.and_true,Bool.true_and];simp(maxSteps:=2000000) (disch:=first|exact aa0|fail) only[go_sem,Aw,Ba,hp,f1,f2,u1,u10,d1,d10,w1,g,k0,k1,k2,k3,a1,a2,a3,hsc]
      exact T
     | some g3=>
      simp only[xI,B6,Option.isSome_some,Option.isSome_none];rw[h1] at a1;simp only[Option.getD_none,Option.isSome_none] at a1;rw[h2] at a2;simp only[Option.getD_none,Option.isSome_none] at a2;rw[h3] at a3;have q3:=p3 g3 h3;have l3:=cw g3.b sc;simp only[Option.getD_some,Option.isSome_some] at a3;generalize az g3.b sc=y3 at *;have be:((((y3.2:Int)):Int)==0)=((y3.2==0)):=by rw[ab0];simp only[abm,abe];omega
      have bf:(((0:Int)+(y3.2:Int))==0)=((y3.2==0)):=by rw[ab0];simp only[abm,abe];omega
      have T:=bz t v1 (v10 !=0) false (0) 0 .AB [] (0) 0 .AB [] true (y3.1) ((y3.2==0)) ho ⟨rfl,rfl⟩ ⟨rfl,rfl⟩ in0 in0 aa3 aa3;simp only[mT,Au,ef,fc,List.cons_append,List.nil_append,Aw,hsc] at T;simp only[beq_self_eq_true,Bool.and_true,Bool.true_and];simp(maxSteps:=2000000) (disch:=first|exact aa0|fail) only[go_sem,Aw,Ba,hp,f1,f2,u1,u10,d1,d10,w1,g,k0,k1,k2,k3,a1,a2,a3,hsc,q3,be,bf]
      exact T
    | some g2=>
     cases h3:AA qs 3 2 with
     | none=>
      simp only[xI,B6,Option.isSome_some,Option.isSome_none];rw[h1] at a1;simp only[Option.getD_none,Option.isSome_none] at a1;rw[h2] at a2;have q2:=p2 g2 h2;have l2:=cw g2.b sc;simp only[Option.getD_some,Option.isSome_some] at a2;generalize az g2.b sc=y2 at *;rw[h3] at a3;simp only[Option.getD_none,Option.isSome_none] at a3;have T:=bz t v1 (v10 !=0) false 0 0 .AB [] 0 0 .AB [] false (0) false ho ⟨rfl,rfl⟩ ⟨rfl,rfl⟩ in0 in0 aa3 aa3;rw[mr] at T;simp only[mT,Au,ef,fc,List.cons_append,List.nil_append,Aw,hsc] at T;rw[show(true&&(y2.2==0)&&(false==true)&&true)=false from by simp,mr]
      simp(maxSteps:=2000000) (disch:=first|exact aa0|fail) only[go_sem,Aw,Ba,hp,f1,f2,u1,u10,d1,d10,w1,g,k0,k1,k2,k3,a1,a2,a3,hsc,q2]
      exact T
     | some g3=>
      simp only[xI,B6,Option.isSome_some,Option.isSome_none];rw[h1] at a1;simp only[Option.getD_none,Option.isSome_none] at a1;rw[h2] at a2;have q2:=p2 g2 h2;have l2:=cw g2.b sc;simp only[Option.getD_some,Option.isSome_some] at a2;generalize az g2.b sc=y2 at *;rw[h3] at a3;have q3:=p3 g3 h3;have l3:=cw g3.b sc;simp only[Option.getD_some,Option.isSome_some] at a3;generalize az g3.b sc=y3 at *;have T:=bz t v1 (v10 !=0) false 0 0 .AB [] 0 0 .AB [] true (y3.1) false ho ⟨rfl,rfl⟩ ⟨rfl,rfl⟩ in0 in0 aa3 aa3;rw[mr] at T;simp only[mT,Au,ef,fc,List.cons_append,List.nil_append,Aw,hsc] at T;rw[show(true&&(y2.2==0)&&(false==true)&&(y3.2==0))=false from by simp,mr]
      simp(maxSteps:=2000000) (disch:=first|exact aa0|fail) only[go_sem,Aw,Ba,hp,f1,f2,u1,u10,d1,d10,w1,g,k0,k1,k2,k3,a1,a2,a3,hsc,q2,q3]
      exact T
   | some g1=>
    cases h2:AA qs 2 2 with
    | none=>
     cases h3:AA qs 3 2 with
     | none=>
      simp only[xI,B6,Option.isSome_some,Option.isSome_none];rw[h1] at a1;have q1:=p1 g1 h1;have l1:=cw g1.b sc;simp only[Option.getD_some,Option.isSome_some] at a1;generalize az g1.b sc=y1 at *;rw[h2] at a2;simp only[Option.getD_none,Option.isSome_none] at a2;rw[h3] at a3;simp only[Option.getD_none,Option.isSome_none] at a3;have T:=bz t v1 (v10 !=0) true 0 0 .AB [] 0 0 .AB [] false (0) false ho ⟨rfl,rfl⟩ ⟨rfl,rfl⟩ in0 in0 aa3 aa3;rw[mr] at T;simp only[mT,Au,ef,fc,List.cons_append,List.nil_append,Aw,hsc] at T;rw[show((y1.2==0)&&true&&(true==false)&&true)=false from by simp,mr]
      simp(maxSteps:=2000000) (disch:=first|exact aa0|fail) only[go_sem,Aw,Ba,hp,f1,f2,u1,u10,d1,d10,w1,g,k0,k1,k2,k3,a1,a2,a3,hsc,q1]
      exact T
     | some g3=>
      simp only[xI,B6,Option.isSome_some,Option.isSome_none];rw[h1] at a1;have q1:=p1 g1 h1;have l1:=cw g1.b sc;simp only[Option.getD_some,Option.isSome_some] at a1;generalize az g1.b sc=y1 at *;rw[h2] at a2;simp only[Option.getD_none,Option.isSome_none] at a2;rw[h3] at a3;have q3:=p3 g3 h3;have l3:=cw g3.b sc;simp only[Option.getD_some,Option.isSome_some] at a3;generalize az g3.b sc=y3 at *;have T:=bz t v1 (v10 !=0) true 0 0 .AB [] 0 0 .AB [] true (y3.1) false ho ⟨rfl,rfl⟩ ⟨rfl,rfl⟩ in0 in0 aa3 aa3;rw[mr] at T;simp only[mT,Au,ef,fc,List.cons_append,List.nil_append,Aw,hsc] at T;rw[show((y1.2==0)&&true&&(true==false)&&(y3.2==0))=false from by simp,mr]
      simp(maxSteps:=2000000) (disch:=first|exact aa0|fail) only[go_sem,Aw,Ba,hp,f1,f2,u1,u10,d1,d10,w1,g,k0,k1,k2,k3,a1,a2,a3,hsc,q1,q3]
      exact T
    | some g2=>
     cases h3:AA qs 3 2 with
     | none=>
      simp only[xI,B6,Option.isSome_some,Option.isSome_none];rw[h1] at a1;have q1:=p1 g1 h1;have l1:=cw g1.b sc;simp only[Option.getD_some,Option.isSome_some] at a1;have j1:=mf g1.b sc;have j2:=mf g2.b sc;generalize az g1.b sc=y1 at *;rw[h2] at a2;have q2:=p2 g2 h2;have l2:=cw g2.b sc;simp only[Option.getD_some,Option.isSome_some] at a2;generalize az g2.b sc=y2 at *;rw[h3] at a3;simp only[Option.getD_none,Option.isSome_none] at a3;have be:((((y1.2:Int)+(y2.2:Int)):Int)==0)=((y1.2==0)&&(y2.2==0)):=by rw[ab0];simp only[abm,abe];omega
      have T:=bz t v1 (v10 !=0) true (y1.1) 0 .AB [] (y2.1) 0 .AB [] false (0) ((y1.2==0)&&(y2.2==0)) ho ⟨rfl,rfl⟩ ⟨rfl,rfl⟩ j1 j2 aa3 aa3;simp only[mT,Au,ef,fc,List.cons_append,List.nil_append,Aw,hsc] at T;simp only[beq_self_eq_true,Bool.and_true,Bool.true_and];simp(maxSteps:=2000000) (disch:=first|exact aa0|fail) only[go_sem,Aw,Ba,hp,f1,f2,u1,u10,d1,d10,w1,g,k0,k1,k2,k3,a1,a2,a3,hsc,q1,q2,be]
      exact T
     | some g3=>
      simp only[xI,B6,Option.isSome_some,Option.isSome_none];rw[h1] at a1;have q1:=p1 g1 h1;have l1:=cw g1.b sc;simp only[Option.getD_some,Option.isSome_some] at a1;have j1:=mf g1.b sc;have j2:=mf g2.b sc;generalize az g1.b sc=y1 at *;rw[h2] at a2;have q2:=p2 g2 h2;have l2:=cw g2.b sc;simp only[Option.getD_some,Option.isSome_some] at a2;generalize az g2.b sc=y2 at *;rw[h3] at a3;have q3:=p3 g3 h3;have l3:=cw g3.b sc;simp only[Option.getD_some,Option.isSome_some] at a3;generalize az g3.b sc=y3 at *;have be:((((y1.2:Int)+(y2.2:Int)+(y3.2:Int)):Int)==0)=((y1.2==0)&&(y2.2==0)&&(y3.2==0)):=by rw[ab0];simp only[abm,abe];omega
      have T:=bz t v1 (v10 !=0) true (y1.1) 0 .AB [] (y2.1) 0 .AB [] true (y3.1) ((y1.2==0)&&(y2.2==0)&&(y3.2==0)) ho ⟨rfl,rfl⟩ ⟨rfl,rfl⟩ j1 j2 aa3 aa3;simp only[mT,Au,ef,fc,List.cons_append,List.nil_append,Aw,hsc] at T;simp only[beq_self_eq_true,Bool.and_true,Bool.true_and];simp(maxSteps:=2000000) (disch:=first|exact aa0|fail) only[go_sem,Aw,Ba,hp,f1,f2,u1,u10,d1,d10,w1,g,k0,k1,k2,k3,a1,a2,a3,hsc,q1,q2,q3,be]
      exact T
 rw[k3,if_neg aa3] at hpm;rcases aa5 (t.kind==15) with k4|k4
 · rw[k4,if_pos rfl] at hpm
   omega
 rw[k4,if_neg aa3] at hpm;rcases aa5 (t.kind==8) with k5|k5
 · rw[k5,if_pos rfl] at hpm
   omega
 rw[k5,if_neg aa3] at hpm;rcases aa5 (t.kind==9) with k6|k6
 · rw[k6,if_pos rfl] at hpm
   omega
 rw[k6,if_neg aa3] at hpm;omega
end
end
end
end Go.Proofs.YtpnhljhciibfnaaGreatDoor
namespace Go.Proofs.YtpnhljhciibfnaaGreatDoor
open Go Go.Ev
set_option maxHeartbeats 8000000
set_option maxRecDepth 10000
section
variable (t:Ty) (b:List UInt8) (hl:b.length≤2000)
include hl
section
variable (h:(aa b).2=0) (h2:uM (aa b).1 1≤262144) (hn:(aa b).1.length≤1000000) (hb:∀ f∈(aa b).1,f.b.length≤1000000)
include h h2 hn hb
section
variable {f:Fld} (hk:0<AL t.kind) (hf:AA (aa b).1 (AL t.kind).toNat 2=some f) (h3:(aa f.b).2=0) (gn:(aa f.b).1.length≤1000000) (gb:∀ g∈(aa f.b).1,g.b.length≤4000) (gu:∀ g∈(aa f.b).1,g.u<18446744073709551616) (ho:BT t=0)
include hk hf h3 gn gb gu ho
theorem rr_k9 (hkp:AL t.kind=9):evL cfg Dq 0 [.d t.d,.d (.sl ((b).map AM))] []=some (A6 (BQ t ⟨(uM (aa b).1 1:Int),(uM (aa b).1 10 !=0),(AA (aa f.b).1 1 0).isSome,leaf (zI (AA (aa f.b).1 1 0)) (CN (AA (aa f.b).1 3 0)) ([]),leaf (zI (AA (aa f.b).1 2 0)) (CN (AA (aa f.b).1 4 0)) ([]),false,0⟩ (((AA (aa f.b).1 1 0).isSome==(AA (aa f.b).1 2 0).isSome)&&ff (AA (aa f.b).1 1 0).isSome (AA (aa f.b).1 3 0)&&ff (AA (aa f.b).1 1 0).isSome (AA (aa f.b).1 4 0))).1 ((BQ t ⟨(uM (aa b).1 1:Int),(uM (aa b).1 10 !=0),(AA (aa f.b).1 1 0).isSome,leaf (zI (AA (aa f.b).1 1 0)) (CN (AA (aa f.b).1 3 0)) ([]),leaf (zI (AA (aa f.b).1 2 0)) (CN (AA (aa f.b).1 4 0)) ([]),false,0⟩ (((AA (aa f.b).1 1 0).isSome==(AA (aa f.b).1 2 0).isSome)&&ff (AA (aa f.b).1 1 0).isSome (AA (aa f.b).1 3 0)&&ff (AA (aa f.b).1 1 0).isSome (AA (aa f.b).1 4 0))).2:Int),[]):=by
 have hp:=al b aa1;have f1:=am t.kind;have f2:=ai t.kind;have hpm:=df t.kind;have u1:=ae (aa b).1 1 hn;have u10:=ae (aa b).1 10 hn;rw[FR,fj];unfold dh at hp;rw[h,show((0:Nat):Int)=0 from rfl] at hp
 rw[show((1:Nat):Int)=1 from rfl] at u1
 rw[show((10:Nat):Int)=10 from rfl] at u10
 unfold uM at h2 ⊢;unfold Bh at u1 u10;have g:=aw (aa b).1 (AL t.kind).toNat hn hb;rw[hf,abs aa1] at g;dsimp only at g;rw[h3,show((0:Nat):Int)=0 from rfl] at g
 have a1:=js (aa f.b).1 gn gu;have a3:=ae (aa f.b).1 3 gn;rw[show((3:Nat):Int)=3 from rfl] at a3
 unfold Bh at a3;have a4:=ae (aa f.b).1 4 gn;rw[show((4:Nat):Int)=4 from rfl] at a4
 unfold Bh at a4;have j1:=Fm gu 1 0;have j2:=Fm gu 2 0;generalize(aa b).1=fs at *;generalize(aa f.b).1=qs at *;have d1:decide ((((AA fs 1 0).getD Af).u:Int)>262144)=false:=by simp;omega
 have d10:=cc ((AA fs 10 0).getD Af).u;generalize((AA fs 1 0).getD Af).u=v1 at *;generalize((AA fs 10 0).getD Af).u=v10 at *;have w1:IntKind.wrap .i64 (v1:Int)=v1:=au aa1 aa1;rcases aa5 (decide (t.kind≥1)&&decide (t.kind≤4)) with k0|k0
 · rw[k0,if_pos rfl] at hpm
   omega
 rw[k0,if_neg aa3] at hpm;rcases aa5 (BV t.kind&&t.kind !=8) with k1|k1
 · rw[k1,if_pos rfl] at hpm
   omega
 rw[k1,if_neg aa3] at hpm;rcases aa5 (t.kind==0) with k2|k2
 · rw[k2,if_pos rfl] at hpm
   omega
 rw[k2,if_neg aa3] at hpm;rcases aa5 (t.kind==14) with k3|k3
 · rw[k3,if_pos rfl] at hpm
   omega
 rw[k3,if_neg aa3] at hpm;rcases aa5 (t.kind==15) with k4|k4
 · rw[k4,if_pos rfl] at hpm
   omega
 rw[k4,if_neg aa3] at hpm;rcases aa5 (t.kind==8) with k5|k5
 · rw[k5,if_pos rfl] at hpm
   omega
 rw[k5,if_neg aa3] at hpm;rcases aa5 (t.kind==9) with k6|k6
 · rw[k6,if_pos rfl] at hpm
   rw[hpm] at g;have b3:decide ((((AA qs 3 0).getD Af).u:Int)<4294967296)=decide (((AA qs 3 0).getD Af).u≤4294967295):=by rw[ab0];simp only[aa9];omega
   have b4:decide ((((AA qs 4 0).getD Af).u:Int)<4294967296)=decide (((AA qs 4 0).getD Af).u≤4294967295):=by rw[ab0];simp only[aa9];omega
   unfold ff;unfold zI CN at *;generalize hz1:(AA qs 1 0).isSome=s1 at *;generalize((AA qs 1 0).getD Af).u=y1 at *;generalize hz2:(AA qs 2 0).isSome=s2 at *;generalize((AA qs 2 0).getD Af).u=y2 at *;generalize hz3:(AA qs 3 0).isSome=s3 at *;generalize((AA qs 3 0).getD Af).u=y3 at *;generalize hz4:(AA qs 4 0).isSome=s4 at *;generalize((AA qs 4 0).getD Af).u=y4 at *;generalize CG y1=z1 at *;generalize CG y2=z2 at *;generalize decide (y3≤4294967295)=c3 at *;generalize decide (y4≤4294967295)=c4 at *;have T:=fun ok=>bz t v1 (v10 !=0) s1 z1 (IntKind.wrap .i64 (y3:Int)) .AB [] z2 (IntKind.wrap .i64 (y4:Int)) .AB [] false 0 ok ho ⟨rfl,rfl⟩ ⟨rfl,rfl⟩ j1 j2 aa3 aa3
   simp only[mT,Au,ef,fc,List.cons_append,List.nil_append,Aw] at T;rcases aa5 (s1==s2) with e|e
   · rw[e]
     rcases aa5 (s3==s1) with q3|q3
     · rw[q3]
       rcases aa5 (s4==s1) with q4|q4
       · rw[q4]
         cases c3 with
         | false=>
          refine Eq.trans ?_ (T _);simp(maxSteps:=2000000) (disch:=first|exact aa0|fail) only[go_sem,Aw,Ba,hp,f1,f2,u1,u10,d1,d10,w1,g,k0,k1,k2,k3,k4,k5,k6,a1,a3,a4,b3,b4,e,q3,q4]
         | true=>
          refine Eq.trans ?_ (T _);simp(maxSteps:=2000000) (disch:=first|exact aa0|fail) only[go_sem,Aw,Ba,hp,f1,f2,u1,u10,d1,d10,w1,g,k0,k1,k2,k3,k4,k5,k6,a1,a3,a4,b3,b4,e,q3,q4]
       · rw[q4]
         refine Eq.trans ?_ (T _);simp(maxSteps:=2000000) (disch:=first|exact aa0|fail) only[go_sem,Aw,Ba,hp,f1,f2,u1,u10,d1,d10,w1,g,k0,k1,k2,k3,k4,k5,k6,a1,a3,a4,b3,b4,e,q3,q4]
     · rw[q3]
       refine Eq.trans ?_ (T _);simp(maxSteps:=2000000) (disch:=first|exact aa0|fail) only[go_sem,Aw,Ba,hp,f1,f2,u1,u10,d1,d10,w1,g,k0,k1,k2,k3,k4,k5,k6,a1,a3,a4,b3,b4,e,q3]
   · rw[e]
     refine Eq.trans ?_ (T _);simp(maxSteps:=2000000) (disch:=first|exact aa0|fail) only[go_sem,Aw,Ba,hp,f1,f2,u1,u10,d1,d10,w1,g,k0,k1,k2,k3,k4,k5,k6,a1,a3,a4,b3,b4,e]
 rw[k6,if_neg aa3] at hpm;omega
end
end
end
end Go.Proofs.YtpnhljhciibfnaaGreatDoor
namespace Go.Proofs.YtpnhljhciibfnaaGreatDoor
open Go Go.Ev
set_option maxHeartbeats 8000000
theorem bgc {k:Int} (h:AL k≠0):k=0∨k=1∨k=2∨k=3∨k=4∨k=7∨k=8∨k=9∨k=14∨k=15∨k=16∨k=17:=by
 unfold AL at h;apply Classical.byContradiction;intro hc;simp only[not_or] at hc;obtain⟨c0,c1,c2,c3,c4,c7,c8,c9,c14,c15,c16,c17⟩:=hc;have e:∀ n:Int,k≠n→(k==n)=false:=fun n hn=>by simp[hn]
 rw[e 0 c0,e 1 c1,e 2 c2,e 3 c3,e 4 c4,e 7 c7,e 8 c8,e 9 c9,e 14 c14,e 15 c15,e 16 c16,e 17 c17] at h;exact h rfl
theorem Yt (k:Int) (ns:List Tx) (ks:List Ty) (l p s:Int) (hk:AL k≠0) (i n:Int) (x:List UInt8):ll (.mk k [] [] l p s) (leaf i n x)=CM (.mk k ns ks l p s) (leaf i n x):=by
 rw[HK,GQ];have z:GS (.mk k [] [] l p s) (leaf i n x)=cl (.mk k ns ks l p s) (leaf i n x):=by
  rcases bgc hk with rfl|rfl|rfl|rfl|rfl|rfl|rfl|rfl|rfl|rfl|rfl|rfl<;>
  simp(config:={decide:=true}) [GS,cl,aoi,Hw,d7,IA,apb,tu,BV,DP,leaf,Ty.kind,Ty.len,Ty.prec,Ty.kids,Va.null,Va.i,Va.n,Va.b,Va.kids]<;>(cases x<;>simp[or_comm]);by_cases hd:(C1 i.natAbs:Int)≤p<;>simp[hd]
 rw[z];simp only[leaf,Va.null,Va.kids,Fu,GP]
theorem bfm (k:Int) (ns:List Tx) (ks:List Ty) (l p s:Int) (hk:AL k≠0) (i n:Int) (x:List UInt8):DN (.mk k ns ks l p s) (leaf i n x)=Gi (.mk k [] [] l p s) (leaf i n x):=by
 unfold DN Gi;rw[Yt k ns ks l p s hk i n x]
def bare (t:Ty):Ty:= .mk t.kind [] [] t.len t.prec t.scale
theorem mC (t:Ty) (hk:AL t.kind≠0) (q:Fl) (c:Int) (nl ok:Bool):BQ t (q.sv c nl) ok=FC (bare t) (q.sv c nl) ok:=by
 obtain⟨k,ns,ks,l,p,s⟩:=t;unfold BQ FC Fl.sv bare;simp only[Ty.kind,Ty.len,Ty.prec,Ty.scale];rw[bfm k ns ks l p s hk,bfm k ns ks l p s hk]
theorem oe (t:Ty) (sc:Nat) (hsc:t.scale=(sc:Int)) (hs:sc≤18) (ho:BT t=0) (b:List UInt8) (hl:b.length≤2000):evL cfg Dq 0 [.d t.d,.d (.sl ((b).map AM))] []=some (A6 (rdM (bare t) sc b).1 ((rdM (bare t) sc b).2:Int),[]):=by
 obtain⟨p1,p2⟩:=en b;have hn:(aa b).1.length≤1000000:=aa1;have hb:∀ f∈(aa b).1,f.b.length≤1000000:=fun f hf=>abo (p1 f hf) aa1
 have ek:AL (bare t).kind=AL t.kind:=rfl;unfold rdM;rw[ek];by_cases h:(aa b).2≠0
 · rw[if_pos h];exact rr_e1 t b hl h
 rw[if_neg h];have h:(aa b).2=0:=Decidable.of_not_not h;by_cases h2:262144<uM (aa b).1 1
 · rw[if_pos h2];exact rr_e2 t b hl h h2 hn
 rw[if_neg h2];have h2':uM (aa b).1 1≤262144:=aa1;have hk:=iv t.kind;cases hp:Cg (AL t.kind) (aa b).1 with
 | none=>
   unfold Cg at hp;split at hp
   · rename_i e;exact YT t b hl h h2' hn hb e
   · exact YU t b hl h h2' hn hb aa1 hp
 | some f=>
   unfold Cg at hp;split at hp
   · cases hp
   rename_i k0;have kp:0<AL t.kind:=aa1;have hfm:=iw _ _ hp;obtain⟨r1,r2⟩:=en f.b;have hf0:=p1 f hfm;have gn:(aa f.b).1.length≤1000000:=aa1;have gb:∀ g∈(aa f.b).1,g.b.length≤4000:=fun g hg=>abo (r1 g hg) aa1
   have gu:=zg f.b;dsimp only;by_cases h3:(aa f.b).2≠0
   · rw[if_pos h3];exact rr_e3 t b hl h h2' hn hb kp hp h3
   rw[if_neg h3];have h3:(aa f.b).2=0:=Decidable.of_not_not h3;rw[← mC t aa1];rcases hk with e|e|e|e|e|e|e|e
   · have z:=rr_k2 t b hl h h2' hn hb kp hp h3 gn gb gu ho e
     rw[e];simp only[BG,Int.reduceEq,↓reduceIte,ne_eq,abp,Fl.sv];exact z
   · have z:=rr_k4 t b hl h h2' hn hb kp hp h3 gn gb gu ho e
     rw[e];simp only[BG,Int.reduceEq,↓reduceIte,ne_eq,abp,Fl.sv];exact z
   · rw[e]
     simp only[BG,Int.reduceEq,↓reduceIte];by_cases c:(ba 1 (aa f.b).1 []).2=0
     · have z:=rr_k5 t b hl h h2' hn hb kp hp h3 gn gb gu ho e c
       simp only[if_pos c,ne_eq,abp,↓reduceIte,Fl.sv];exact z
     · have z:=eK t b hl h h2' hn hb kp hp h3 gn gb gu ho e c
       simp only[if_neg c,ne_eq,ab7,↓reduceIte];rw[if_pos c];exact z
   · have z:=rr_k6 t b hl h h2' hn hb kp hp h3 gn gb gu ho sc hsc hs e
     rw[e];simp only[BG,Int.reduceEq,↓reduceIte,ne_eq,abp,Fl.sv];exact z
   · have z:=rr_k7 t b hl h h2' hn hb kp hp h3 gn gb gu ho e
     rw[e];simp only[BG,Int.reduceEq,↓reduceIte,ne_eq,abp,Fl.sv];exact z
   · have z:=rr_k8 t b hl h h2' hn hb kp hp h3 gn gb gu ho e
     rw[e];simp only[BG,Int.reduceEq,↓reduceIte,ne_eq,abp,Fl.sv];exact z
   · have z:=rr_k9 t b hl h h2' hn hb kp hp h3 gn gb gu ho e
     rw[e];simp only[BG,Int.reduceEq,↓reduceIte,ne_eq,abp,Fl.sv];exact z
   · omega
end Go.Proofs.YtpnhljhciibfnaaGreatDoor
namespace Go.Proofs.YtpnhljhciibfnaaGreatDoor
open Go Go.Ev
theorem au4 (d:List UInt8) (s:Nat):t6 d s=d.take (d.length-s)++(if s=0 then[] else 46::d.drop (d.length-s)):=rfl
theorem qr {v:Int} {s:Nat} (hv:inI v) (hs:s≤18):az (Al v s) s=(v,0):=by
 have hb:=bge (decide (v<0)) v.natAbs s 0 hs (by unfold inI at hv;omega) (Al v s) (.inl rfl) (by
  unfold Al HL;rw[au4];by_cases c:v<0
  · rw[if_pos c]
    simp only[c,decide_true,if_true,Nat.add_zero,show zer 0=[] from rfl,List.append_nil]
    rfl
  · rw[if_neg c]
    simp only[c,decide_false,aa8,if_false,Nat.add_zero,show zer 0=[] from rfl,List.append_nil,List.nil_append])
 have e:sgn (decide (v<0)) ((v.natAbs*10 ^ 0:Nat):Int)=v:=by
  unfold sgn;split
  · rename_i h;have:=of_decide_eq_true h;simp;omega
  · rename_i h;have:¬ v<0:=fun c=>h (decide_eq_true c)
    simp;omega
 rw[Nat.add_zero] at hb;rw[hb];simp only[e,hv,if_true]
