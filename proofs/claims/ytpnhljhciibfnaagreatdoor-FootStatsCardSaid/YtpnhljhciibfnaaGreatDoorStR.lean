import Derived.Test.YtpnhljhciibfnaaGreatDoorStQ
set_option linter.unusedSimpArgs false
set_option linter.unusedSectionVars false
namespace Go.Proofs.YtpnhljhciibfnaaGreatDoor
open Go Go.Ev
set_option maxHeartbeats 8000000
set_option maxRecDepth 10000
section
variable (t:Ty) (b:List UInt8) (hl:b.length≤2000)
include hl
section
variable (h:(aa b).2=0) (h2:uM (aa b).1 1≤262144) (hn:(aa b).1.length≤1000000) (hb:∀ f∈(aa b).1,f.b.length≤1000000)
include h h2 hn hb
section
variable {f:Fld} (hk:0<AL t.kind) (hf:AA (aa b).1 (AL t.kind).toNat 2=some f) (h3:(aa f.b).2=0) (gn:(aa f.b).1.length≤1000000) (gb:∀ g∈(aa f.b).1,g.b.length≤4000) (gu:∀ g∈(aa f.b).1,g.u<18446744073709551616) (ho:BT t=0)
include hk hf h3 gn gb gu ho
theorem rr_k2 (hkp:AL t.kind=2):evL cfg Dq 0 [.d t.d,.d (.sl ((b).map AM))] []=some (A6 (BQ t ⟨(uM (aa b).1 1:Int),(uM (aa b).1 10 !=0),(AA (aa f.b).1 1 0).isSome,leaf (zI (AA (aa f.b).1 1 0)) (0) ([]),leaf (zI (AA (aa f.b).1 2 0)) (0) ([]),(AA (aa f.b).1 3 0).isSome,(zI (AA (aa f.b).1 3 0))⟩ ((AA (aa f.b).1 1 0).isSome==(AA (aa f.b).1 2 0).isSome)).1 ((BQ t ⟨(uM (aa b).1 1:Int),(uM (aa b).1 10 !=0),(AA (aa f.b).1 1 0).isSome,leaf (zI (AA (aa f.b).1 1 0)) (0) ([]),leaf (zI (AA (aa f.b).1 2 0)) (0) ([]),(AA (aa f.b).1 3 0).isSome,(zI (AA (aa f.b).1 3 0))⟩ ((AA (aa f.b).1 1 0).isSome==(AA (aa f.b).1 2 0).isSome)).2:Int),[]):=by
 have hp:=al b aa1;have f1:=am t.kind;have f2:=ai t.kind;have hpm:=df t.kind;have u1:=ae (aa b).1 1 hn;have u10:=ae (aa b).1 10 hn;rw[FR,fj];unfold dh at hp;rw[h,show((0:Nat):Int)=0 from rfl] at hp
 rw[show((1:Nat):Int)=1 from rfl] at u1
 rw[show((10:Nat):Int)=10 from rfl] at u10
 unfold uM at h2 ⊢;unfold Bh at u1 u10;have g:=aw (aa b).1 (AL t.kind).toNat hn hb;rw[hf,abs aa1] at g;dsimp only at g;rw[h3,show((0:Nat):Int)=0 from rfl] at g
 have a1:=js (aa f.b).1 gn gu;have a2:=fz (aa f.b).1 3 gn gu;rw[show((3:Nat):Int)=3 from rfl] at a2
 unfold FA at a2;have j1:=Fm gu 1 0;have j2:=Fm gu 2 0;generalize(aa b).1=fs at *;generalize(aa f.b).1=qs at *;have d1:decide ((((AA fs 1 0).getD Af).u:Int)>262144)=false:=by simp;omega
 have d10:=cc ((AA fs 10 0).getD Af).u;generalize((AA fs 1 0).getD Af).u=v1 at *;generalize((AA fs 10 0).getD Af).u=v10 at *;have w1:IntKind.wrap .i64 (v1:Int)=v1:=au aa1 aa1;rcases aa5 (decide (t.kind≥1)&&decide (t.kind≤4)) with k0|k0
 · rw[k0,if_pos rfl] at hpm
   rw[hpm] at g;unfold zI at *;have T:=bz t v1 (v10 !=0) (AA qs 1 0).isSome (zI (AA qs 1 0)) 0 .AB [] (zI (AA qs 2 0)) 0 .AB [] (AA qs 3 0).isSome (zI (AA qs 3 0)) ((AA qs 1 0).isSome==(AA qs 2 0).isSome) ho ⟨rfl,rfl⟩ ⟨rfl,rfl⟩ j1 j2 aa3 aa3;simp only[mT,Au,ef,fc,List.cons_append,List.nil_append,Aw] at T;simp(maxSteps:=2000000) (disch:=first|exact aa0|fail) only[go_sem,Aw,Ba,hp,f1,f2,u1,u10,d1,d10,w1,g,a1,a2,k0]
   exact T
 rw[k0,if_neg aa3] at hpm;rcases aa5 (BV t.kind&&t.kind !=8) with k1|k1
 · rw[k1,if_pos rfl] at hpm
   omega
 rw[k1,if_neg aa3] at hpm;rcases aa5 (t.kind==0) with k2|k2
 · rw[k2,if_pos rfl] at hpm
   omega
 rw[k2,if_neg aa3] at hpm;rcases aa5 (t.kind==14) with k3|k3
 · rw[k3,if_pos rfl] at hpm
   omega
 rw[k3,if_neg aa3] at hpm;rcases aa5 (t.kind==15) with k4|k4
 · rw[k4,if_pos rfl] at hpm
   omega
 rw[k4,if_neg aa3] at hpm;rcases aa5 (t.kind==8) with k5|k5
 · rw[k5,if_pos rfl] at hpm
   omega
 rw[k5,if_neg aa3] at hpm;rcases aa5 (t.kind==9) with k6|k6
 · rw[k6,if_pos rfl] at hpm
   omega
 rw[k6,if_neg aa3] at hpm;omega
theorem rr_k7 (hkp:AL t.kind=7):evL cfg Dq 0 [.d t.d,.d (.sl ((b).map AM))] []=some (A6 (BQ t ⟨(uM (aa b).1 1:Int),(uM (aa b).1 10 !=0),(AA (aa f.b).1 1 0).isSome,leaf (zI (AA (aa f.b).1 1 0)) (0) ([]),leaf (zI (AA (aa f.b).1 2 0)) (0) ([]),false,0⟩ ((AA (aa f.b).1 1 0).isSome==(AA (aa f.b).1 2 0).isSome)).1 ((BQ t ⟨(uM (aa b).1 1:Int),(uM (aa b).1 10 !=0),(AA (aa f.b).1 1 0).isSome,leaf (zI (AA (aa f.b).1 1 0)) (0) ([]),leaf (zI (AA (aa f.b).1 2 0)) (0) ([]),false,0⟩ ((AA (aa f.b).1 1 0).isSome==(AA (aa f.b).1 2 0).isSome)).2:Int),[]):=by
 have hp:=al b aa1;have f1:=am t.kind;have f2:=ai t.kind;have hpm:=df t.kind;have u1:=ae (aa b).1 1 hn;have u10:=ae (aa b).1 10 hn;rw[FR,fj];unfold dh at hp;rw[h,show((0:Nat):Int)=0 from rfl] at hp
 rw[show((1:Nat):Int)=1 from rfl] at u1
 rw[show((10:Nat):Int)=10 from rfl] at u10
 unfold uM at h2 ⊢;unfold Bh at u1 u10;have g:=aw (aa b).1 (AL t.kind).toNat hn hb;rw[hf,abs aa1] at g;dsimp only at g;rw[h3,show((0:Nat):Int)=0 from rfl] at g
 have a1:=js (aa f.b).1 gn gu;have j1:=Fm gu 1 0;have j2:=Fm gu 2 0;generalize(aa b).1=fs at *;generalize(aa f.b).1=qs at *;have d1:decide ((((AA fs 1 0).getD Af).u:Int)>262144)=false:=by simp;omega
 have d10:=cc ((AA fs 10 0).getD Af).u;generalize((AA fs 1 0).getD Af).u=v1 at *;generalize((AA fs 10 0).getD Af).u=v10 at *;have w1:IntKind.wrap .i64 (v1:Int)=v1:=au aa1 aa1;rcases aa5 (decide (t.kind≥1)&&decide (t.kind≤4)) with k0|k0
 · rw[k0,if_pos rfl] at hpm
   omega
 rw[k0,if_neg aa3] at hpm;rcases aa5 (BV t.kind&&t.kind !=8) with k1|k1
 · rw[k1,if_pos rfl] at hpm
   omega
 rw[k1,if_neg aa3] at hpm;rcases aa5 (t.kind==0) with k2|k2
 · rw[k2,if_pos rfl] at hpm
   omega
 rw[k2,if_neg aa3] at hpm;rcases aa5 (t.kind==14) with k3|k3
 · rw[k3,if_pos rfl] at hpm
   omega
 rw[k3,if_neg aa3] at hpm;rcases aa5 (t.kind==15) with k4|k4
 · rw[k4,if_pos rfl] at hpm
   rw[hpm] at g;unfold zI at *;have T:=bf5 t v1 (v10 !=0) (AA qs 1 0).isSome (zI (AA qs 1 0)) 0 .AB [] (zI (AA qs 2 0)) 0 .AB [] false 0 ((AA qs 1 0).isSome==(AA qs 2 0).isSome) (.sl (qs.map Fld.d)) (.bool false) ho ⟨rfl,rfl⟩ ⟨rfl,rfl⟩ j1 j2 aa3 aa3;simp only[mT,Au,ef,fc,List.cons_append,List.nil_append,Aw] at T;simp(maxSteps:=2000000) (disch:=first|exact aa0|fail) only[go_sem,Aw,Ba,hp,f1,f2,u1,u10,d1,d10,w1,g,a1,k0,k1,k2,k3,k4]
   exact T
 rw[k4,if_neg aa3] at hpm;rcases aa5 (t.kind==8) with k5|k5
 · rw[k5,if_pos rfl] at hpm
   omega
 rw[k5,if_neg aa3] at hpm;rcases aa5 (t.kind==9) with k6|k6
 · rw[k6,if_pos rfl] at hpm
   omega
 rw[k6,if_neg aa3] at hpm;omega
theorem rr_k8 (hkp:AL t.kind=8):evL cfg Dq 0 [.d t.d,.d (.sl ((b).map AM))] []=some (A6 (BQ t ⟨(uM (aa b).1 1:Int),(uM (aa b).1 10 !=0),false,leaf (0) (0) ([]),leaf (0) (0) ([]),(AA (aa f.b).1 1 0).isSome,(zI (AA (aa f.b).1 1 0))⟩ (true)).1 ((BQ t ⟨(uM (aa b).1 1:Int),(uM (aa b).1 10 !=0),false,leaf (0) (0) ([]),leaf (0) (0) ([]),(AA (aa f.b).1 1 0).isSome,(zI (AA (aa f.b).1 1 0))⟩ (true)).2:Int),[]):=by
 have hp:=al b aa1;have f1:=am t.kind;have f2:=ai t.kind;have hpm:=df t.kind;have u1:=ae (aa b).1 1 hn;have u10:=ae (aa b).1 10 hn;rw[FR,fj];unfold dh at hp;rw[h,show((0:Nat):Int)=0 from rfl] at hp
 rw[show((1:Nat):Int)=1 from rfl] at u1
 rw[show((10:Nat):Int)=10 from rfl] at u10
 unfold uM at h2 ⊢;unfold Bh at u1 u10;have g:=aw (aa b).1 (AL t.kind).toNat hn hb;rw[hf,abs aa1] at g;dsimp only at g;rw[h3,show((0:Nat):Int)=0 from rfl] at g
 have a2:=fz (aa f.b).1 1 gn gu;rw[show((1:Nat):Int)=1 from rfl] at a2
 unfold FA at a2;generalize(aa b).1=fs at *;generalize(aa f.b).1=qs at *;have d1:decide ((((AA fs 1 0).getD Af).u:Int)>262144)=false:=by simp;omega
 have d10:=cc ((AA fs 10 0).getD Af).u;generalize((AA fs 1 0).getD Af).u=v1 at *;generalize((AA fs 10 0).getD Af).u=v10 at *;have w1:IntKind.wrap .i64 (v1:Int)=v1:=au aa1 aa1;rcases aa5 (decide (t.kind≥1)&&decide (t.kind≤4)) with k0|k0
 · rw[k0,if_pos rfl] at hpm
   omega
 rw[k0,if_neg aa3] at hpm;rcases aa5 (BV t.kind&&t.kind !=8) with k1|k1
 · rw[k1,if_pos rfl] at hpm
   omega
 rw[k1,if_neg aa3] at hpm;rcases aa5 (t.kind==0) with k2|k2
 · rw[k2,if_pos rfl] at hpm
   omega
 rw[k2,if_neg aa3] at hpm;rcases aa5 (t.kind==14) with k3|k3
 · rw[k3,if_pos rfl] at hpm
   omega
 rw[k3,if_neg aa3] at hpm;rcases aa5 (t.kind==15) with k4|k4
 · rw[k4,if_pos rfl] at hpm
   omega
 rw[k4,if_neg aa3] at hpm;rcases aa5 (t.kind==8) with k5|k5
 · rw[k5,if_pos rfl] at hpm
   rw[hpm] at g;unfold zI at *;have T:=bz t v1 (v10 !=0) false 0 0 .AB [] 0 0 .AB [] (AA qs 1 0).isSome (zI (AA qs 1 0)) true ho ⟨rfl,rfl⟩ ⟨rfl,rfl⟩ in0 in0 aa3 aa3;simp only[mT,Au,ef,fc,List.cons_append,List.nil_append,Aw] at T;simp(maxSteps:=2000000) (disch:=first|exact aa0|fail) only[go_sem,Aw,Ba,hp,f1,f2,u1,u10,d1,d10,w1,g,a2,k0,k1,k2,k3,k4,k5]
   exact T
 rw[k5,if_neg aa3] at hpm;rcases aa5 (t.kind==9) with k6|k6
 · rw[k6,if_pos rfl] at hpm
   omega
 rw[k6,if_neg aa3] at hpm;omega
theorem rr_k4 (hkp:AL t.kind=4):evL cfg Dq 0 [.d t.d,.d (.sl ((b).map AM))] []=some (A6 (BQ t ⟨(uM (aa b).1 1:Int),(uM (aa b).1 10 !=0),(AA (aa f.b).1 1 2).isSome,leaf (0) (0) (((AA (aa f.b).1 1 2).getD Af).b),leaf (0) (0) (((AA (aa f.b).1 2 2).getD Af).b),(AA (aa f.b).1 3 0).isSome,(zI (AA (aa f.b).1 3 0))⟩ ((AA (aa f.b).1 1 2).isSome==(AA (aa f.b).1 2 2).isSome)).1 ((BQ t ⟨(uM (aa b).1 1:Int),(uM (aa b).1 10 !=0),(AA (aa f.b).1 1 2).isSome,leaf (0) (0) (((AA (aa f.b).1 1 2).getD Af).b),leaf (0) (0) (((AA (aa f.b).1 2 2).getD Af).b),(AA (aa f.b).1 3 0).isSome,(zI (AA (aa f.b).1 3 0))⟩ ((AA (aa f.b).1 1 2).isSome==(AA (aa f.b).1 2 2).isSome)).2:Int),[]):=by
 have hp:=al b aa1;have f1:=am t.kind;have f2:=ai t.kind;have hpm:=df t.kind;have u1:=ae (aa b).1 1 hn;have u10:=ae (aa b).1 10 hn;rw[FR,fj];unfold dh at hp;rw[h,show((0:Nat):Int)=0 from rfl] at hp
 rw[show((1:Nat):Int)=1 from rfl] at u1
 rw[show((10:Nat):Int)=10 from rfl] at u10
 unfold uM at h2 ⊢;unfold Bh at u1 u10;have g:=aw (aa b).1 (AL t.kind).toNat hn hb;rw[hf,abs aa1] at g;dsimp only at g;rw[h3,show((0:Nat):Int)=0 from rfl] at g
 have a1:=dw (aa f.b).1 1 gn;have a3:=dw (aa f.b).1 2 gn;have a2:=fz (aa f.b).1 3 gn gu;rw[show((3:Nat):Int)=3 from rfl] at a2
 rw[show((1:Nat):Int)=1 from rfl] at a1
 rw[show((2:Nat):Int)=2 from rfl] at a3
 unfold FA at a2;unfold Cf at a1 a3;have j1:=ne gb 1 2;have j2:=ne gb 2 2;generalize(aa b).1=fs at *;generalize(aa f.b).1=qs at *;have d1:decide ((((AA fs 1 0).getD Af).u:Int)>262144)=false:=by simp;omega
 have d10:=cc ((AA fs 10 0).getD Af).u;generalize((AA fs 1 0).getD Af).u=v1 at *;generalize((AA fs 10 0).getD Af).u=v10 at *;have w1:IntKind.wrap .i64 (v1:Int)=v1:=au aa1 aa1;rcases aa5 (decide (t.kind≥1)&&decide (t.kind≤4)) with k0|k0
 · rw[k0,if_pos rfl] at hpm
   omega
 rw[k0,if_neg aa3] at hpm;rcases aa5 (BV t.kind&&t.kind !=8) with k1|k1
 · rw[k1,if_pos rfl] at hpm
   rw[hpm] at g;unfold zI at *;have T:=bz t v1 (v10 !=0) (AA qs 1 2).isSome 0 0 (txt ((AA qs 1 2).getD Af).b) ((AA qs 1 2).getD Af).b 0 0 (txt ((AA qs 2 2).getD Af).b) ((AA qs 2 2).getD Af).b (AA qs 3 0).isSome (zI (AA qs 3 0)) ((AA qs 1 2).isSome==(AA qs 2 2).isSome) ho ⟨rfl,rfl⟩ ⟨rfl,rfl⟩ in0 in0 j1 j2;simp only[mT,Au,ef,fc,List.cons_append,List.nil_append,Aw] at T;simp(maxSteps:=2000000) (disch:=first|exact aa0|fail) only[go_sem,Aw,Ba,hp,f1,f2,u1,u10,d1,d10,w1,g,a1,a2,a3,k0,k1]
   exact T
 rw[k1,if_neg aa3] at hpm;rcases aa5 (t.kind==0) with k2|k2
 · rw[k2,if_pos rfl] at hpm
   omega
 rw[k2,if_neg aa3] at hpm;rcases aa5 (t.kind==14) with k3|k3
 · rw[k3,if_pos rfl] at hpm
   omega
 rw[k3,if_neg aa3] at hpm;rcases aa5 (t.kind==15) with k4|k4
 · rw[k4,if_pos rfl] at hpm
   omega
 rw[k4,if_neg aa3] at hpm;rcases aa5 (t.kind==8) with k5|k5
 · rw[k5,if_pos rfl] at hpm
   omega
 rw[k5,if_neg aa3] at hpm;rcases aa5 (t.kind==9) with k6|k6
 · rw[k6,if_pos rfl] at hpm
   omega
 rw[k6,if_neg aa3] at hpm;omega
theorem rr_k5 (hkp:AL t.kind=5):(ba 1 (aa f.b).1 []).2=0→evL cfg Dq 0 [.d t.d,.d (.sl ((b).map AM))] []=some (A6 (BQ t ⟨(uM (aa b).1 1:Int),(uM (aa b).1 10 !=0),false,leaf (0) (0) ([]),leaf (0) (0) ([]),(E4 (ba 1 (aa f.b).1 []).1).isSome,(wI (E4 (ba 1 (aa f.b).1 []).1))⟩ (G2 (ba 1 (aa f.b).1 []).1)).1 ((BQ t ⟨(uM (aa b).1 1:Int),(uM (aa b).1 10 !=0),false,leaf (0) (0) ([]),leaf (0) (0) ([]),(E4 (ba 1 (aa f.b).1 []).1).isSome,(wI (E4 (ba 1 (aa f.b).1 []).1))⟩ (G2 (ba 1 (aa f.b).1 []).1)).2:Int),[]):=by
 have hp:=al b aa1;have f1:=am t.kind;have f2:=ai t.kind;have hpm:=df t.kind;have u1:=ae (aa b).1 1 hn;have u10:=ae (aa b).1 10 hn;rw[FR,fj];unfold dh at hp;rw[h,show((0:Nat):Int)=0 from rfl] at hp
 rw[show((1:Nat):Int)=1 from rfl] at u1
 rw[show((10:Nat):Int)=10 from rfl] at u10
 unfold uM at h2 ⊢;unfold Bh at u1 u10;have g:=aw (aa b).1 (AL t.kind).toNat hn hb;rw[hf,abs aa1] at g;dsimp only at g;rw[h3,show((0:Nat):Int)=0 from rfl] at g
 obtain⟨r1,r2⟩:=en f.b;have hfb:=hb f (iw _ _ hf);have a2:=nu (aa f.b).1 1 gn (fun g hg=>abo (gb g hg) aa1) (abo (Sf gb) aa1)
 rw[show((1:Nat):Int)=1 from rfl] at a2
 unfold o6 at a2;intro hq;rw[hq,show((0:Nat):Int)=0 from rfl] at a2
 generalize(aa b).1=fs at *;generalize(aa f.b).1=qs at *;have d1:decide ((((AA fs 1 0).getD Af).u:Int)>262144)=false:=by simp;omega
 have d10:=cc ((AA fs 10 0).getD Af).u;generalize((AA fs 1 0).getD Af).u=v1 at *;generalize((AA fs 10 0).getD Af).u=v10 at *;have w1:IntKind.wrap .i64 (v1:Int)=v1:=au aa1 aa1;rcases aa5 (decide (t.kind≥1)&&decide (t.kind≤4)) with k0|k0
 · rw[k0,if_pos rfl] at hpm
   omega
 rw[k0,if_neg aa3] at hpm;rcases aa5 (BV t.kind&&t.kind !=8) with k1|k1
 · rw[k1,if_pos rfl] at hpm
   omega
 rw[k1,if_neg aa3] at hpm;rcases aa5 (t.kind==0) with k2|k2
 · rw[k2,if_pos rfl] at hpm
   rw[hpm] at g;cases hq1:(ba 1 qs []).1 with
   | nil=>
    rw[hq1] at a2;simp only[List.map_nil,E4,G2,Option.isSome_none,wI] at a2 ⊢;have T:=bf4 t v1 (v10 !=0) false 0 0 .AB [] 0 0 .AB [] false 0 true (.sl []) (.bool false) ho ⟨rfl,rfl⟩ ⟨rfl,rfl⟩ in0 in0 aa3 aa3;simp only[mT,Au,ef,fc,List.cons_append,List.nil_append,Aw] at T;have d_a:decide ((0:Int)>1)=false:=rfl;simp(maxSteps:=2000000) (disch:=first|exact aa0|fail) only[go_sem,Aw,Ba,hp,f1,f2,u1,u10,d1,d10,w1,g,a2,k0,k1,k2,d_a]
    exact T
   | cons u r=>
    cases r with
    | nil=>
     rw[hq1] at a2;simp only[List.map_cons,List.map_nil,uD] at a2;simp only[E4,G2,Option.isSome_some,wI];have d_a:decide ((1:Int)>1)=false:=rfl;rcases aa5 (decide (u≤262144)) with e|e
     · have d_b:decide ((u:Int)>262144)=false:=by simp at e ⊢;omega
       have T:=bz t v1 (v10 !=0) false 0 0 .AB [] 0 0 .AB [] true (IntKind.wrap .i64 (u:Int)) true ho ⟨rfl,rfl⟩ ⟨rfl,rfl⟩ in0 in0 aa3 aa3;simp only[mT,Au,ef,fc,List.cons_append,List.nil_append,Aw] at T;simp(maxSteps:=2000000) (disch:=first|exact aa0|fail) only[go_sem,Aw,Ba,hp,f1,f2,u1,u10,d1,d10,w1,g,a2,k0,k1,k2,d_a,d_b]
       rw[e];exact T
     · have d_b:decide ((u:Int)>262144)=true:=by simp at e ⊢;omega
       rw[e];unfold BQ A6;rw[if_pos aa3];dsimp only;rw[Bx];simp(maxSteps:=2000000) (disch:=first|exact aa0|fail) only[go_sem,Aw,Ba,hp,f1,f2,u1,u10,d1,d10,w1,g,a2,k0,k1,k2,d_a,d_b]
       rfl
    | cons v r=>
     rw[hq1] at a2;simp only[List.map_cons,uD] at a2;simp only[E4,G2,Option.isSome_none,wI];have d_a:decide (((r.length+1+1:Nat):Int)>1)=true:=by simp;omega
     unfold BQ A6;rw[if_pos aa3];dsimp only;rw[Bx];simp(maxSteps:=2000000) (disch:=first|exact aa0|fail) only[go_sem,Aw,Ba,hp,f1,f2,u1,u10,d1,d10,w1,g,a2,k0,k1,k2,d_a]
     rfl
 rw[k2,if_neg aa3] at hpm;rcases aa5 (t.kind==14) with k3|k3
 · rw[k3,if_pos rfl] at hpm
   omega
 rw[k3,if_neg aa3] at hpm;rcases aa5 (t.kind==15) with k4|k4
 · rw[k4,if_pos rfl] at hpm
   omega
 rw[k4,if_neg aa3] at hpm;rcases aa5 (t.kind==8) with k5|k5
 · rw[k5,if_pos rfl] at hpm
   omega
 rw[k5,if_neg aa3] at hpm;rcases aa5 (t.kind==9) with k6|k6
 · rw[k6,if_pos rfl] at hpm
   omega
 rw[k6,if_neg aa3] at hpm;omega
theorem eK (hkp:AL t.kind=5):(ba 1 (aa f.b).1 []).2≠0→evL cfg Dq 0 [.d t.d,.d (.sl ((b).map AM))] []=some (A6 sv0 ((ba 1 (aa f.b).1 []).2:Int),[]):=by
 have hp:=al b aa1;have f1:=am t.kind;have f2:=ai t.kind;have hpm:=df t.kind;have u1:=ae (aa b).1 1 hn;have u10:=ae (aa b).1 10 hn;rw[FR,fj];unfold dh at hp;rw[h,show((0:Nat):Int)=0 from rfl] at hp
 rw[show((1:Nat):Int)=1 from rfl] at u1
 rw[show((10:Nat):Int)=10 from rfl] at u10
 unfold uM at h2;unfold Bh at u1 u10;have g:=aw (aa b).1 (AL t.kind).toNat hn hb;rw[hf,abs aa1] at g;dsimp only at g;rw[h3,show((0:Nat):Int)=0 from rfl] at g
 have a2:=nu (aa f.b).1 1 gn (fun g hg=>abo (gb g hg) aa1) (abo (Sf gb) (by obtain⟨r1,r2⟩:=en f.b;omega))
 rw[show((1:Nat):Int)=1 from rfl] at a2
 unfold o6 at a2;intro hq;have e3:(((ba 1 (aa f.b).1 []).2:Int) !=0)=true:=by simp;omega
 unfold A6;rw[Bx];generalize(aa b).1=fs at *;generalize(aa f.b).1=qs at *;have d1:decide ((((AA fs 1 0).getD Af).u:Int)>262144)=false:=by simp;omega
 have d10:=cc ((AA fs 10 0).getD Af).u;generalize((AA fs 1 0).getD Af).u=v1 at *;generalize((AA fs 10 0).getD Af).u=v10 at *;have w1:IntKind.wrap .i64 (v1:Int)=v1:=au aa1 aa1;rcases aa5 (decide (t.kind≥1)&&decide (t.kind≤4)) with k0|k0
 · rw[k0,if_pos rfl] at hpm
   omega
 rw[k0,if_neg aa3] at hpm;rcases aa5 (BV t.kind&&t.kind !=8) with k1|k1
 · rw[k1,if_pos rfl] at hpm
   omega
 rw[k1,if_neg aa3] at hpm;rcases aa5 (t.kind==0) with k2|k2
 · rw[k2,if_pos rfl] at hpm
   rw[hpm] at g;simp(maxSteps:=2000000) (disch:=first|exact aa0|fail) only[go_sem,Aw,Ba,hp,f1,f2,u1,u10,d1,d10,w1,g,a2,e3,k0,k1,k2]
 rw[k2,if_neg aa3] at hpm;rcases aa5 (t.kind==14) with k3|k3
 · rw[k3,if_pos rfl] at hpm
   omega
 rw[k3,if_neg aa3] at hpm;rcases aa5 (t.kind==15) with k4|k4
 · rw[k4,if_pos rfl] at hpm
   omega
 rw[k4,if_neg aa3] at hpm;rcases aa5 (t.kind==8) with k5|k5
 · rw[k5,if_pos rfl] at hpm
   omega
 rw[k5,if_neg aa3] at hpm;rcases aa5 (t.kind==9) with k6|k6
 · rw[k6,if_pos rfl] at hpm
   omega
 rw[k6,if_neg aa3] at hpm;omega
end
end
end
