import Derived.Test.YtpnhljhciibfnaaGreatDoorStK
set_option linter.unusedSimpArgs false
namespace Go.Proofs.YtpnhljhciibfnaaGreatDoor
set_option linter.unusedSectionVars false
open Go Go.Ev
set_option maxHeartbeats 8000000
theorem nD {A:List (Cel×V)} (h:Aok 0 [12,63] A):∀ p∈A,([⟨0,63,9⟩]:List Cel).contains p.1=false:=by
 intro p hp;obtain⟨_,h1,_⟩:=h p hp;rw[List.contains_cons,List.contains_nil,Bool.or_false];simp only[aba,ne_eq];intro e;rw[e] at h1;exact h1 aa3
section
variable {A:List (Cel×V)} (hA:Aok 0 [12,63] A) (n:Nd) (fs:List Fld) (hs:n.scale≤18) (hn:fs.length≤1000000) (hu:∀ f∈fs,f.u<18446744073709551616) (hb:∀ f∈fs,f.b.length≤4000) (hb':∀ f∈fs,f.b.length≤1000000)
variable (c:Int) (nl:Bool)
include hA hn hu in
theorem mK (hk:AL n.kind=2):evL cfg FW 1 [.ref 0 63 0,.ref 0 12 0] (mS A n fs c nl false 0 0 .AB 0 0 .AB false 0 true)=
  some (.d (.int .i64 (0)),mS A n fs c nl (AA fs 1 0).isSome (zI (AA fs 1 0)) 0 .AB (zI (AA fs 2 0)) 0 .AB (AA fs 3 0).isSome (zI (AA fs 3 0)) ((AA fs 1 0).isSome==(AA fs 2 0).isSome)):=by
 have hp:=ay n.kind;rw[hk] at hp;have h1:=H9 hA n fs hn hu c nl false 0 0 .AB 0 0 .AB false 0 1 3 true;have h2:=au9 hA n fs hn hu c nl false 0 0 .AB 0 0 .AB (AA fs 3 0).isSome (zI (AA fs 3 0)) true;rw[show((3:Nat):Int)=3 from rfl] at h1
 unfold FA at h1;have z1:=fun o=>lkN hA 12 o aa3
 have y1:=fun o=>lkN hA 63 o aa3
 have z2:=fun o=>stN hA 12 o aa3
 have z3:=ct hA;have z4:=ew hA 1 aa1;have z5:=Fa hA 1 aa1;have z6:=Fg hA;rw[SK 1 _ _ rfl rfl];simp only[zI,mS,mR,FH,FI,abv,List.cons_append,List.nil_append,Bool.true_and] at h1 h2 ⊢;generalize AA fs 1 0=o1 at *;generalize AA fs 2 0=o2 at *;generalize AA fs 3 0=o3 at *;simp(disch:=first|exact aa0|fail) only[go_sem,G8,F9,hp,h1,h2,z1,y1,z2,z3,z4,z5,z6,List.all_cons,List.all_nil]
include hA hn hu in
theorem mG (hk:AL n.kind=7):evL cfg FW 1 [.ref 0 63 0,.ref 0 12 0] (mS A n fs c nl false 0 0 .AB 0 0 .AB false 0 true)=
  some (.d (.int .i64 (0)),mS A n fs c nl (AA fs 1 0).isSome (zI (AA fs 1 0)) 0 .AB (zI (AA fs 2 0)) 0 .AB false 0 ((AA fs 1 0).isSome==(AA fs 2 0).isSome)):=by
 have hp:=ay n.kind;rw[hk] at hp;have h2:=au9 hA n fs hn hu c nl false 0 0 .AB 0 0 .AB false 0 true;have z1:=fun o=>lkN hA 12 o aa3
 have y1:=fun o=>lkN hA 63 o aa3
 have z2:=fun o=>stN hA 12 o aa3
 have y2:=fun o=>stN hA 63 o aa3
 have z3:=ct hA;have z4:=ew hA 1 aa1;have z5:=Fa hA 1 aa1;have z6:=Fg hA;rw[SK 1 _ _ rfl rfl];simp only[zI,mS,mR,FH,FI,abv,List.cons_append,List.nil_append,Bool.true_and] at h2 ⊢;generalize AA fs 1 0=o1 at *;generalize AA fs 2 0=o2 at *;simp(maxSteps:=2000000) (disch:=first|exact aa0|fail) only[go_sem,G8,F9,hp,h2,z1,y1,z2,y2,z3,z4,z5,z6,List.all_cons,List.all_nil]
include hA hn hb' hu in
theorem mJ (hk:AL n.kind=4):evL cfg FW 1 [.ref 0 63 0,.ref 0 12 0] (mS A n fs c nl false 0 0 .AB 0 0 .AB false 0 true)=
  some (.d (.int .i64 (0)),mS A n fs c nl (AA fs 1 2).isSome 0 0 (txt ((AA fs 1 2).getD Af).b) 0 0 (txt ((AA fs 2 2).getD Af).b) (AA fs 3 0).isSome (zI (AA fs 3 0)) ((AA fs 1 2).isSome==(AA fs 2 2).isSome)):=by
 have hp:=ay n.kind;rw[hk] at hp;have h2:=Yr hA n fs hn hb' c nl false 0 0 .AB 0 0 .AB false 0 true;have h1:=H9 hA n fs hn hu c nl (AA fs 1 2).isSome 0 0 (txt ((AA fs 1 2).getD Af).b) 0 0 (txt ((AA fs 2 2).getD Af).b) false 0 1 3 ((AA fs 1 2).isSome==(AA fs 2 2).isSome);rw[show((3:Nat):Int)=3 from rfl] at h1
 have z1:=fun o=>lkN hA 12 o aa3
 have y1:=fun o=>lkN hA 63 o aa3
 have z2:=fun o=>stN hA 12 o aa3
 have y2:=fun o=>stN hA 63 o aa3
 have z3:=ct hA;have z4:=ew hA 1 aa1;have z5:=Fa hA 1 aa1;have z6:=Fg hA;rw[SK 1 _ _ rfl rfl];simp only[zI,mS,mR,FH,FI,abv,List.cons_append,List.nil_append,Bool.true_and] at h2 h1 ⊢;unfold FA at h1;unfold txt at *;generalize AA fs 1 2=o1 at *;generalize AA fs 2 2=o2 at *;generalize AA fs 3 0=o3 at *;simp(maxSteps:=2000000) (disch:=first|exact aa0|fail) only[go_sem,G8,F9,hp,h1,h2,z1,y1,z2,y2,z3,z4,z5,z6,List.all_cons,List.all_nil]
include hA hn hb hs in
theorem mH (hk:AL n.kind=6):evL cfg FW 1 [.ref 0 63 0,.ref 0 12 0] (mS A n fs c nl false 0 0 .AB 0 0 .AB false 0 true)=
  some (.d (.int .i64 (0)),mS A n fs c nl (AA fs 1 2).isSome (xI n.scale (AA fs 1 2)) 0 .AB (xI n.scale (AA fs 2 2)) 0 .AB (AA fs 3 2).isSome (xI n.scale (AA fs 3 2)) (B6 n.scale (AA fs 1 2)&&B6 n.scale (AA fs 2 2)&&((AA fs 1 2).isSome==(AA fs 2 2).isSome)&&B6 n.scale (AA fs 3 2))):=by
 have hp:=ay n.kind;rw[hk] at hp;have h2:=Yq hA n fs hs hn hb c nl false 0 0 .AB 0 0 .AB false 0 true;have h1:=ava hA n fs hs hn hb c nl (AA fs 1 2).isSome (xI n.scale (AA fs 1 2)) 0 .AB (xI n.scale (AA fs 2 2)) 0 .AB false 0 1 3 (B6 n.scale (AA fs 1 2)&&B6 n.scale (AA fs 2 2)&&((AA fs 1 2).isSome==(AA fs 2 2).isSome));rw[Wm,show((3:Nat):Int)=3 from rfl] at h1
 have z1:=fun o=>lkN hA 12 o aa3
 have y1:=fun o=>lkN hA 63 o aa3
 have z2:=fun o=>stN hA 12 o aa3
 have y2:=fun o=>stN hA 63 o aa3
 have z3:=ct hA;have z4:=ew hA 1 aa1;have z5:=Fa hA 1 aa1;have z6:=Fg hA;rw[SK 1 _ _ rfl rfl];simp only[zI,mS,mR,FH,FI,abv,List.cons_append,List.nil_append,Bool.true_and] at h2 h1 ⊢;generalize AA fs 1 2=o1 at *;generalize AA fs 2 2=o2 at *;generalize AA fs 3 2=o3 at *;generalize xI n.scale o1=v1 at *;generalize xI n.scale o2=v2 at *;generalize xI n.scale o3=v3 at *;simp(maxSteps:=2000000) (disch:=first|exact aa0|fail) only[go_sem,G8,F9,hp,h1,h2,z1,y1,z2,y2,z3,z4,z5,z6,List.all_cons,List.all_nil]
include hA hn hu in
theorem mE (hk:AL n.kind=8):evL cfg FW 1 [.ref 0 63 0,.ref 0 12 0] (mS A n fs c nl false 0 0 .AB 0 0 .AB false 0 true)=
  some (.d (.int .i64 (0)),mS A n fs c nl false 0 0 .AB 0 0 .AB (AA fs 1 0).isSome (zI (AA fs 1 0)) true):=by
 have hp:=ay n.kind;rw[hk] at hp;have h1:=H9 hA n fs hn hu c nl false 0 0 .AB 0 0 .AB false 0 1 1 true;rw[show((1:Nat):Int)=1 from rfl] at h1
 have z1:=fun o=>lkN hA 12 o aa3
 have y1:=fun o=>lkN hA 63 o aa3
 have z2:=fun o=>stN hA 12 o aa3
 have y2:=fun o=>stN hA 63 o aa3
 have z3:=ct hA;have z4:=ew hA 1 aa1;have z5:=Fa hA 1 aa1;have z6:=Fg hA;rw[SK 1 _ _ rfl rfl];simp only[zI,mS,mR,FH,FI,abv,List.cons_append,List.nil_append,Bool.true_and] at h1 ⊢;unfold FA at h1;generalize AA fs 1 0=o1 at *;simp(maxSteps:=2000000) (disch:=first|exact aa0|fail) only[go_sem,G8,F9,hp,h1,z1,y1,z2,y2,z3,z4,z5,z6,List.all_cons,List.all_nil]
include hA hn hu in
theorem mD (hk:AL n.kind=9):evL cfg FW 1 [.ref 0 63 0,.ref 0 12 0] (mS A n fs c nl false 0 0 .AB 0 0 .AB false 0 true)=
  some (.d (.int .i64 (0)),mS A n fs c nl (AA fs 1 0).isSome (zI (AA fs 1 0)) (CN (AA fs 3 0)) .AB (zI (AA fs 2 0)) (CN (AA fs 4 0)) .AB false 0 (((AA fs 1 0).isSome==(AA fs 2 0).isSome)&&ff (AA fs 1 0).isSome (AA fs 3 0)&&ff (AA fs 1 0).isSome (AA fs 4 0))):=by
 have hp:=ay n.kind;rw[hk] at hp;have h2:=au9 hA n fs hn hu c nl false 0 0 .AB 0 0 .AB false 0 true;have h3:=WB hA n fs hn c nl (AA fs 1 0).isSome (zI (AA fs 1 0)) 0 .AB (zI (AA fs 2 0)) 0 .AB false 0 1 3 (AA fs 1 0).isSome ((AA fs 1 0).isSome==(AA fs 2 0).isSome);have h4:=WB hA n fs hn c nl (AA fs 1 0).isSome (zI (AA fs 1 0)) 0 .AB (zI (AA fs 2 0)) 0 .AB false 0 1 4 (AA fs 1 0).isSome (((AA fs 1 0).isSome==(AA fs 2 0).isSome)&&ff (AA fs 1 0).isSome (AA fs 3 0));rw[show((3:Nat):Int)=3 from rfl] at h3
 rw[show((4:Nat):Int)=4 from rfl] at h4
 have z1:=fun o=>lkN hA 12 o aa3
 have y1:=fun o=>lkN hA 63 o aa3
 have z2:=fun o=>stN hA 12 o aa3
 have y2:=fun o=>stN hA 63 o aa3
 have z3:=ct hA;have z4:=ew hA 1 aa1;have z5:=Fa hA 1 aa1;have z6:=Fg hA;rw[SK 1 _ _ rfl rfl];simp only[zI,mS,mR,FH,FI,abv,List.cons_append,List.nil_append,Bool.true_and] at h2 h3 h4 ⊢;generalize ff (AA fs 1 0).isSome (AA fs 3 0)=k3 at *;generalize ff (AA fs 1 0).isSome (AA fs 4 0)=k4 at *;generalize CN (AA fs 3 0)=w3 at *;generalize CN (AA fs 4 0)=w4 at *;generalize AA fs 1 0=o1 at *;generalize AA fs 2 0=o2 at *;have z7:=Sz (nD hA);simp(maxSteps:=2000000) (disch:=first|exact aa0|fail) only[go_sem,G8,F9,hp,h2,h3,h4,z7,z1,y1,z2,y2,z3,z4,z5,z6,List.all_cons,List.all_nil]
def E4:List Nat→Option Nat
 | [u]=>some u
 |_=>none
def G2 (l:List Nat):Bool:=match l with
 | []=>true
 | [u]=>decide (u≤262144)
 |_=>false
include hA hn hb' in
theorem mI (hk:AL n.kind=5) (hw:wt fs≤100000000):evL cfg FW 1 [.ref 0 63 0,.ref 0 12 0] (mS A n fs c nl false 0 0 .AB 0 0 .AB false 0 true)=
   if(ba 1 fs []).2=0 then some (.d (.int .i64 (0)),mS A n fs c nl false 0 0 .AB 0 0 .AB (E4 (ba 1 fs []).1).isSome (match E4 (ba 1 fs []).1 with|some u=>IntKind.wrap .i64 (u:Int)|none=>0) (G2 (ba 1 fs []).1))
   else some (.d (.int .i64 (((ba 1 fs []).2:Int))),mS A n fs c nl false 0 0 .AB 0 0 .AB false 0 true):=by
 have hp:=ay n.kind;rw[hk] at hp;have h1:=an3 fs 1 hn hb' hw;rw[show((1:Nat):Int)=1 from rfl] at h1
 have z1:=fun o=>lkN hA 12 o aa3
 have y1:=fun o=>lkN hA 63 o aa3
 have z2:=fun o=>stN hA 12 o aa3
 have y2:=fun o=>stN hA 63 o aa3
 have z3:=ct hA;have z4:=ew hA 1 aa1;have z5:=Fa hA 1 aa1;have z6:=Fg hA;rw[SK 1 _ _ rfl rfl];simp only[mS,mR,FH,FI,abv,List.cons_append,List.nil_append,Bool.true_and];unfold o6 at h1;generalize ba 1 fs []=q at *;by_cases e:q.2=0
 · rw[if_pos e]
   rw[e,show((0:Nat):Int)=0 from rfl] at h1
   cases hq:q.1 with
   | nil=>
    rw[hq] at h1;simp only[List.map_nil,E4,G2,Option.isSome_none] at h1 ⊢;have d_a:decide ((0:Int)≤1)=true:=rfl;simp(maxSteps:=2000000) (disch:=first|exact aa0|fail) only[go_sem,G8,F9,hp,h1,d_a,z1,y1,z2,y2,z3,z4,z5,z6,List.all_cons,List.all_nil]
   | cons u r=>
    cases r with
    | nil=>
     rw[hq] at h1;simp only[List.map_cons,List.map_nil,uD] at h1;simp only[E4,G2,Option.isSome_some];have be:decide ((u:Int)≤262144)=decide (u≤262144):=by rw[ab0];simp only[aa9];omega
     simp(maxSteps:=2000000) (disch:=first|exact aa0|fail) only[go_sem,G8,F9,hp,h1,be,z1,y1,z2,y2,z3,z4,z5,z6,List.all_cons,List.all_nil]
    | cons v r=>
     rw[hq] at h1;simp only[List.map_cons,uD] at h1;simp only[E4,G2,Option.isSome_none];have d_a:decide (((r.length+1+1:Nat):Int)≤1)=false:=by simp<;>omega
     have d_b:(((r.length+1+1:Nat):Int)==1)=false:=by simp;omega
     simp(maxSteps:=2000000) (disch:=first|exact aa0|fail) only[go_sem,G8,F9,hp,h1,d_a,d_b,z1,y1,z2,y2,z3,z4,z5,z6,List.all_cons,List.all_nil]
 · rw[if_neg e]
   have e3:((q.2:Int) !=0)=true:=by simp;omega
   simp(maxSteps:=2000000) (disch:=first|exact aa0|fail) only[go_sem,G8,F9,hp,h1,e3,z1,y1,z2,y2,z3,z4,z5,z6,List.all_cons,List.all_nil]
end
end Go.Proofs.YtpnhljhciibfnaaGreatDoor
namespace Go.Proofs.YtpnhljhciibfnaaGreatDoor
open Go Go.Ev
set_option maxHeartbeats 8000000
def Nd.ty (n:Nd):Ty:= .mk n.kind [] [] n.len n.prec (n.scale:Int)
theorem ao1 (n:Nd):evL cfg Re 0 [.d n.d] []=some (.d n.ty.d,[]):=by
 rw[o_fq,Ty.EM];simp(disch:=first|exact aa0|fail) only[go_sem,X_fq,Zk,Nd.d,Nd.ty,Ty.kind,Ty.names,Ty.kids,Ty.len,Ty.prec,Ty.scale,List.map_nil]
def sv0:Sv:=⟨0,false,false,va0,va0,false,0⟩
theorem Bx:sv0.d= .agg [.int .i64 0,.bool false,.bool false,.bool false,.int .i64 0,.int .i64 0,.sl [],.sl [],.bool false,.int .i64 0,.int .i64 0,.sl [],.sl [],.bool false,.int .i64 0]:=rfl
def A6 (s:Sv) (e:Int):V:= .d (.tup [s.d,.int .i64 e])
def UN (n:Nd):List (Cel×V):=Cl 0 2 n++[(⟨0,4,0⟩,.d (.int .i64 (0))),(⟨0,4,1⟩,.d (.bool (false))),(⟨0,4,2⟩,.d (.bool (false))),(⟨0,4,3⟩,.d (.bool (false))),(⟨0,4,4⟩,.d (.int .i64 (0))),(⟨0,4,5⟩,.d (.int .i64 (0))),(⟨0,4,6⟩,.d .AB),(⟨0,4,7⟩,.d .AB),(⟨0,4,8⟩,.d (.bool (false))),(⟨0,4,9⟩,.d (.int .i64 (0))),(⟨0,4,10⟩,.d (.int .i64 (0))),(⟨0,4,11⟩,.d .AB),(⟨0,4,12⟩,.d .AB),(⟨0,4,13⟩,.d (.bool (false))),(⟨0,4,14⟩,.d (.int .i64 (0)))]
theorem Gj (n:Nd):Aok 0 [12,63] (UN n):=by
 intro p hp;simp only[UN,Cl,List.cons_append,List.nil_append,abr,ach,or_false] at hp;rcases hp with rfl|rfl|rfl|rfl|rfl|rfl|rfl|rfl|rfl|rfl|rfl|rfl|rfl|rfl|rfl|rfl|rfl|rfl|rfl|rfl|rfl|rfl|rfl<;>exact⟨rfl,by simp,_,rfl⟩
def Gi (t:Ty) (v:Va):Bool:=ll t v !=0
theorem cc (u:Nat):((u:Int) !=0)=(u !=0):=by rw[bne,bne,show(0:Int)=((0:Nat):Int) from rfl,FK]
section
variable (n:Nd) (b:List UInt8) (hl:b.length≤100000)
include hl
theorem Yd (h:(aa b).2≠0):evL cfg E6 0 [.d n.d,.d (.sl ((b).map AM))] []=some (A6 sv0 ((aa b).2:Int),[]):=by
 have hp:=b9 b aa1;rw[TD];unfold A6;rw[Bx];unfold dh at hp;have e3:(((aa b).2:Int) !=0)=true:=by simp;omega
 generalize aa b=q at *;simp(maxSteps:=2000000) (disch:=first|exact aa0|fail) only[go_sem,Ez,EP,Nd.d,hp,e3]
theorem Yc (h:(aa b).2=0) (h2:262144<uM (aa b).1 1) (hn:(aa b).1.length≤1000000):evL cfg E6 0 [.d n.d,.d (.sl ((b).map AM))] []=some (A6 sv0 2,[]):=by
 have hp:=b9 b aa1;have u1:=b5 (aa b).1 1 hn;have u10:=b5 (aa b).1 10 hn;rw[TD];unfold A6;rw[Bx];unfold dh at hp;rw[h,show((0:Nat):Int)=0 from rfl] at hp
 rw[show((1:Nat):Int)=1 from rfl] at u1
 rw[show((10:Nat):Int)=10 from rfl] at u10
 unfold uM at h2;unfold Bh at u1 u10;generalize(aa b).1=fs at *;have d1:decide ((((AA fs 1 0).getD Af).u:Int)>262144)=true:=by simp;omega
 simp(maxSteps:=2000000) (disch:=first|exact aa0|fail) only[go_sem,Ez,EP,Nd.d,hp,u1,u10,d1]
theorem bh0 (h:(aa b).2=0) (h2:uM (aa b).1 1≤262144) (hn:(aa b).1.length≤1000000) (hb:∀ f∈(aa b).1,f.b.length≤1000000) (hk:AL n.kind=0∨AA (aa b).1 (AL n.kind).toNat 2=none) (k0:0≤AL n.kind):
   evL cfg E6 0 [.d n.d,.d (.sl ((b).map AM))] []=some (A6 ⟨(uM (aa b).1 1:Int),uM (aa b).1 10 !=0,false,va0,va0,false,0⟩ 0,[]):=by
 have hp:=b9 b aa1;have u1:=b5 (aa b).1 1 hn;have u10:=b5 (aa b).1 10 hn;have ut:=fk (aa b).1 (AL n.kind).toNat hn hb;have pt:=ay n.kind;rw[abs k0] at ut;rw[TD];unfold A6;unfold dh at hp;rw[h,show((0:Nat):Int)=0 from rfl] at hp
 rw[show((1:Nat):Int)=1 from rfl] at u1
 rw[show((10:Nat):Int)=10 from rfl] at u10
 unfold uM at h2 ⊢;unfold Bh at u1 u10;unfold Cf at ut;generalize(aa b).1=fs at *;have d1:decide ((((AA fs 1 0).getD Af).u:Int)>262144)=false:=by simp;omega
 have d10:=cc ((AA fs 10 0).getD Af).u;generalize((AA fs 1 0).getD Af).u=v1 at *;generalize((AA fs 10 0).getD Af).u=v10 at *;have w1:IntKind.wrap .i64 (v1:Int)=v1:=au (by simp at d1;omega) (by simp at d1;omega)
 rcases hk with hk|hk
 · rw[hk] at ut pt
   have d0:((0:Int)==0)=true:=rfl;simp(maxSteps:=2000000) (disch:=first|exact aa0|fail) only[go_sem,Ez,EP,Nd.d,hp,u1,u10,ut,pt,d1,d10,d0,w1]
   rfl
 · rw[hk] at ut
   simp only[Option.getD_none,Option.isSome_none] at ut;rcases aa5 (AL n.kind==0) with d0|d0
   · simp(maxSteps:=2000000) (disch:=first|exact aa0|fail) only[go_sem,Ez,EP,Nd.d,hp,u1,u10,ut,pt,d1,d10,d0,w1]
     rfl
   · simp(maxSteps:=2000000) (disch:=first|exact aa0|fail) only[go_sem,Ez,EP,Nd.d,hp,u1,u10,ut,pt,d1,d10,d0,w1]
     rfl
section
variable {f:Fld} (h:(aa b).2=0) (h2:uM (aa b).1 1≤262144) (hn:(aa b).1.length≤1000000) (hb:∀ f∈(aa b).1,f.b.length≤1000000) (hk:0<AL n.kind) (hf:AA (aa b).1 (AL n.kind).toNat 2=some f)
include h h2 hn hb hk hf
theorem Yb (h3:(aa f.b).2≠0):evL cfg E6 0 [.d n.d,.d (.sl ((b).map AM))] []=some (A6 sv0 ((aa f.b).2:Int),[]):=by
 have hp:=b9 b aa1;have u1:=b5 (aa b).1 1 hn;have u10:=b5 (aa b).1 10 hn;have ut:=fk (aa b).1 (AL n.kind).toNat hn hb;have pt:=ay n.kind;have hp2:=b9 f.b (hb f (iw _ _ hf));rw[abs aa1] at ut;rw[hf] at ut;rw[TD];unfold A6;rw[Bx];unfold dh at hp hp2;rw[h,show((0:Nat):Int)=0 from rfl] at hp
 rw[show((1:Nat):Int)=1 from rfl] at u1
 rw[show((10:Nat):Int)=10 from rfl] at u10
 unfold uM at h2;unfold Bh at u1 u10;unfold Cf at ut;simp only[Option.getD_some,Option.isSome_some] at ut;have e3:(((aa f.b).2:Int) !=0)=true:=by simp;omega
 generalize(aa b).1=fs at *;generalize aa f.b=q at *;have d1:decide ((((AA fs 1 0).getD Af).u:Int)>262144)=false:=by simp;omega
 generalize((AA fs 1 0).getD Af).u=v1 at *;generalize((AA fs 10 0).getD Af).u=v10 at *;have w1:IntKind.wrap .i64 (v1:Int)=v1:=au aa1 aa1;have d0:(AL n.kind==0)=false:=by simp;omega
 simp(maxSteps:=2000000) (disch:=first|exact aa0|fail) only[go_sem,Ez,EP,Nd.d,hp,hp2,u1,u10,ut,pt,d1,d0,e3,w1]
def mF (n:Nd) (b:List UInt8) (f:Fld):List (Cel×V):=mS (UN n) n (aa f.b).1 (uM (aa b).1 1:Int) (uM (aa b).1 10 !=0) false 0 0 .AB 0 0 .AB false 0 true
theorem Ya (h3:(aa f.b).2=0) (e:Nat) (he:e≠0) (h4:evL cfg FW 1 [.ref 0 63 0,.ref 0 12 0] (mF n b f)=some (.d (.int .i64 ((e:Int))),mF n b f)):evL cfg E6 0 [.d n.d,.d (.sl ((b).map AM))] []=some (A6 sv0 (e:Int),[]):=by
 have hp:=b9 b aa1;have u1:=b5 (aa b).1 1 hn;have u10:=b5 (aa b).1 10 hn;have ut:=fk (aa b).1 (AL n.kind).toNat hn hb;have pt:=ay n.kind;have hp2:=b9 f.b (hb f (iw _ _ hf));rw[abs aa1] at ut;rw[hf] at ut;rw[TD];unfold A6;rw[Bx];unfold dh at hp hp2;rw[h,show((0:Nat):Int)=0 from rfl] at hp
 rw[h3,show((0:Nat):Int)=0 from rfl] at hp2
 rw[show((1:Nat):Int)=1 from rfl] at u1
 rw[show((10:Nat):Int)=10 from rfl] at u10
 unfold mF at h4;unfold uM at h2 h4;unfold Bh at u1 u10;unfold Cf at ut;simp only[Option.getD_some,Option.isSome_some] at ut;have e3:((e:Int) !=0)=true:=by simp;omega
 generalize(aa b).1=fs at *;generalize(aa f.b).1=q at *;have d1:decide ((((AA fs 1 0).getD Af).u:Int)>262144)=false:=by simp;omega
 have d10:=cc ((AA fs 10 0).getD Af).u;generalize((AA fs 1 0).getD Af).u=v1 at *;generalize((AA fs 10 0).getD Af).u=v10 at *;have w1:IntKind.wrap .i64 (v1:Int)=v1:=au aa1 aa1;have d0:(AL n.kind==0)=false:=by simp;omega
 simp only[mS,mR,UN,Cl,FH,FI,abv,List.cons_append,List.nil_append] at h4;simp(maxSteps:=2000000) (disch:=first|exact aa0|fail) only[go_sem,Ez,EP,Nd.d,hp,hp2,u1,u10,ut,pt,d1,d10,d0,e3,w1,h4]
end
end
