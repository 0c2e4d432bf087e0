import Derived.Test.YtlcnfnjdelmkdaaGreatDoorStK
namespace Go.Proofs.YtlcnfnjdelmkdaaGreatDoor
open Go Go.Ev
set_option maxHeartbeats 8000000
theorem contN2 {A:List (Cel×V)} (h:Aok 0 [12,63] A):∀ p∈A,([⟨0,63,9⟩]:List Cel).contains p.1=false:=by
 intro p hp;obtain⟨_,h1,_⟩:=h p hp;rw[List.contains_cons,List.contains_nil,Bool.or_false];simp only[zp,ne_eq];intro e;rw[e] at h1;exact h1 zb
section
variable {A:List (Cel×V)} (hA:Aok 0 [12,63] A) (n:Nd) (fs:List Fld) (hs:n.scale≤18) (hn:fs.length≤1000000) (hu:∀ f∈fs,f.u<18446744073709551616) (hb:∀ f∈fs,f.b.length≤4000) (hb':∀ f∈fs,f.b.length≤1000000)
variable (c:Int) (nl:Bool)
include hA hn hu in
theorem fill_2 (hk:partM n.kind=2):evL cfg n_aj 1 [.ref 0 63 0,.ref 0 12 0] (mS A n fs c nl false 0 0 .nilS 0 0 .nilS false 0 true)=
  some (.d (.int .i64 (0)),mS A n fs c nl (lastM fs 1 0).isSome (zI (lastM fs 1 0)) 0 .nilS (zI (lastM fs 2 0)) 0 .nilS (lastM fs 3 0).isSome (zI (lastM fs 3 0)) ((lastM fs 1 0).isSome==(lastM fs 2 0).isSome)):=by
 have hp:=a8 n.kind;rw[hk] at hp;have h1:=m_int hA n fs hn hu c nl false 0 0 .nilS 0 0 .nilS false 0 1 3 true;have h2:=au0 hA n fs hn hu c nl false 0 0 .nilS 0 0 .nilS (lastM fs 3 0).isSome (zI (lastM fs 3 0)) true;rw[show((3:Nat):Int)=3 from rfl] at h1
 unfold intD at h1;have z1:=fun o=>lkN hA 12 o zb
 have y1:=fun o=>lkN hA 63 o zb
 have z2:=fun o=>stN hA 12 o zb
 have z3:=ed hA;have z4:=jk hA 1 y8;have z5:=cutN hA 1 y8;have z6:=allN hA;rw[e_aj 1 _ _ rfl rfl];simp only[zI,mS,mR,boxX,boxR,aad,List.cons_append,List.nil_append,Bool.true_and] at h1 h2 ⊢;generalize lastM fs 1 0=o1 at *;generalize lastM fs 2 0=o2 at *;generalize lastM fs 3 0=o3 at *;simp(disch:=first|exact y7|fail) only[go_sem,X_aj,c_aj,hp,h1,h2,z1,y1,z2,z3,z4,z5,z6,List.all_cons,List.all_nil]
include hA hn hu in
theorem fill_7 (hk:partM n.kind=7):evL cfg n_aj 1 [.ref 0 63 0,.ref 0 12 0] (mS A n fs c nl false 0 0 .nilS 0 0 .nilS false 0 true)=
  some (.d (.int .i64 (0)),mS A n fs c nl (lastM fs 1 0).isSome (zI (lastM fs 1 0)) 0 .nilS (zI (lastM fs 2 0)) 0 .nilS false 0 ((lastM fs 1 0).isSome==(lastM fs 2 0).isSome)):=by
 have hp:=a8 n.kind;rw[hk] at hp;have h2:=au0 hA n fs hn hu c nl false 0 0 .nilS 0 0 .nilS false 0 true;have z1:=fun o=>lkN hA 12 o zb
 have y1:=fun o=>lkN hA 63 o zb
 have z2:=fun o=>stN hA 12 o zb
 have y2:=fun o=>stN hA 63 o zb
 have z3:=ed hA;have z4:=jk hA 1 y8;have z5:=cutN hA 1 y8;have z6:=allN hA;rw[e_aj 1 _ _ rfl rfl];simp only[zI,mS,mR,boxX,boxR,aad,List.cons_append,List.nil_append,Bool.true_and] at h2 ⊢;generalize lastM fs 1 0=o1 at *;generalize lastM fs 2 0=o2 at *;simp(maxSteps:=2000000) (disch:=first|exact y7|fail) only[go_sem,X_aj,c_aj,hp,h2,z1,y1,z2,y2,z3,z4,z5,z6,List.all_cons,List.all_nil]
include hA hn hb' hu in
theorem fill_4 (hk:partM n.kind=4):evL cfg n_aj 1 [.ref 0 63 0,.ref 0 12 0] (mS A n fs c nl false 0 0 .nilS 0 0 .nilS false 0 true)=
  some (.d (.int .i64 (0)),mS A n fs c nl (lastM fs 1 2).isSome 0 0 (txt ((lastM fs 1 2).getD fld0).b) 0 0 (txt ((lastM fs 2 2).getD fld0).b) (lastM fs 3 0).isSome (zI (lastM fs 3 0)) ((lastM fs 1 2).isSome==(lastM fs 2 2).isSome)):=by
 have hp:=a8 n.kind;rw[hk] at hp;have h2:=m_pairT hA n fs hn hb' c nl false 0 0 .nilS 0 0 .nilS false 0 true;have h1:=m_int hA n fs hn hu c nl (lastM fs 1 2).isSome 0 0 (txt ((lastM fs 1 2).getD fld0).b) 0 0 (txt ((lastM fs 2 2).getD fld0).b) false 0 1 3 ((lastM fs 1 2).isSome==(lastM fs 2 2).isSome);rw[show((3:Nat):Int)=3 from rfl] at h1
 have z1:=fun o=>lkN hA 12 o zb
 have y1:=fun o=>lkN hA 63 o zb
 have z2:=fun o=>stN hA 12 o zb
 have y2:=fun o=>stN hA 63 o zb
 have z3:=ed hA;have z4:=jk hA 1 y8;have z5:=cutN hA 1 y8;have z6:=allN hA;rw[e_aj 1 _ _ rfl rfl];simp only[zI,mS,mR,boxX,boxR,aad,List.cons_append,List.nil_append,Bool.true_and] at h2 h1 ⊢;unfold intD at h1;unfold txt at *;generalize lastM fs 1 2=o1 at *;generalize lastM fs 2 2=o2 at *;generalize lastM fs 3 0=o3 at *;simp(maxSteps:=2000000) (disch:=first|exact y7|fail) only[go_sem,X_aj,c_aj,hp,h1,h2,z1,y1,z2,y2,z3,z4,z5,z6,List.all_cons,List.all_nil]
include hA hn hb hs in
theorem fill_6 (hk:partM n.kind=6):evL cfg n_aj 1 [.ref 0 63 0,.ref 0 12 0] (mS A n fs c nl false 0 0 .nilS 0 0 .nilS false 0 true)=
  some (.d (.int .i64 (0)),mS A n fs c nl (lastM fs 1 2).isSome (xI n.scale (lastM fs 1 2)) 0 .nilS (xI n.scale (lastM fs 2 2)) 0 .nilS (lastM fs 3 2).isSome (xI n.scale (lastM fs 3 2)) (exOk n.scale (lastM fs 1 2)&&exOk n.scale (lastM fs 2 2)&&((lastM fs 1 2).isSome==(lastM fs 2 2).isSome)&&exOk n.scale (lastM fs 3 2))):=by
 have hp:=a8 n.kind;rw[hk] at hp;have h2:=m_pairX hA n fs hs hn hb c nl false 0 0 .nilS 0 0 .nilS false 0 true;have h1:=au1 hA n fs hs hn hb c nl (lastM fs 1 2).isSome (xI n.scale (lastM fs 1 2)) 0 .nilS (xI n.scale (lastM fs 2 2)) 0 .nilS false 0 1 3 (exOk n.scale (lastM fs 1 2)&&exOk n.scale (lastM fs 2 2)&&((lastM fs 1 2).isSome==(lastM fs 2 2).isSome));rw[exD_x,show((3:Nat):Int)=3 from rfl] at h1
 have z1:=fun o=>lkN hA 12 o zb
 have y1:=fun o=>lkN hA 63 o zb
 have z2:=fun o=>stN hA 12 o zb
 have y2:=fun o=>stN hA 63 o zb
 have z3:=ed hA;have z4:=jk hA 1 y8;have z5:=cutN hA 1 y8;have z6:=allN hA;rw[e_aj 1 _ _ rfl rfl];simp only[zI,mS,mR,boxX,boxR,aad,List.cons_append,List.nil_append,Bool.true_and] at h2 h1 ⊢;generalize lastM fs 1 2=o1 at *;generalize lastM fs 2 2=o2 at *;generalize lastM fs 3 2=o3 at *;generalize xI n.scale o1=v1 at *;generalize xI n.scale o2=v2 at *;generalize xI n.scale o3=v3 at *;simp(maxSteps:=2000000) (disch:=first|exact y7|fail) only[go_sem,X_aj,c_aj,hp,h1,h2,z1,y1,z2,y2,z3,z4,z5,z6,List.all_cons,List.all_nil]
include hA hn hu in
theorem fill_8 (hk:partM n.kind=8):evL cfg n_aj 1 [.ref 0 63 0,.ref 0 12 0] (mS A n fs c nl false 0 0 .nilS 0 0 .nilS false 0 true)=
  some (.d (.int .i64 (0)),mS A n fs c nl false 0 0 .nilS 0 0 .nilS (lastM fs 1 0).isSome (zI (lastM fs 1 0)) true):=by
 have hp:=a8 n.kind;rw[hk] at hp;have h1:=m_int hA n fs hn hu c nl false 0 0 .nilS 0 0 .nilS false 0 1 1 true;rw[show((1:Nat):Int)=1 from rfl] at h1
 have z1:=fun o=>lkN hA 12 o zb
 have y1:=fun o=>lkN hA 63 o zb
 have z2:=fun o=>stN hA 12 o zb
 have y2:=fun o=>stN hA 63 o zb
 have z3:=ed hA;have z4:=jk hA 1 y8;have z5:=cutN hA 1 y8;have z6:=allN hA;rw[e_aj 1 _ _ rfl rfl];simp only[zI,mS,mR,boxX,boxR,aad,List.cons_append,List.nil_append,Bool.true_and] at h1 ⊢;unfold intD at h1;generalize lastM fs 1 0=o1 at *;simp(maxSteps:=2000000) (disch:=first|exact y7|fail) only[go_sem,X_aj,c_aj,hp,h1,z1,y1,z2,y2,z3,z4,z5,z6,List.all_cons,List.all_nil]
include hA hn hu in
theorem fill_9 (hk:partM n.kind=9):evL cfg n_aj 1 [.ref 0 63 0,.ref 0 12 0] (mS A n fs c nl false 0 0 .nilS 0 0 .nilS false 0 true)=
  some (.d (.int .i64 (0)),mS A n fs c nl (lastM fs 1 0).isSome (zI (lastM fs 1 0)) (nanoI (lastM fs 3 0)) .nilS (zI (lastM fs 2 0)) (nanoI (lastM fs 4 0)) .nilS false 0 (((lastM fs 1 0).isSome==(lastM fs 2 0).isSome)&&gy (lastM fs 1 0).isSome (lastM fs 3 0)&&gy (lastM fs 1 0).isSome (lastM fs 4 0))):=by
 have hp:=a8 n.kind;rw[hk] at hp;have h2:=au0 hA n fs hn hu c nl false 0 0 .nilS 0 0 .nilS false 0 true;have h3:=m_nano hA n fs hn c nl (lastM fs 1 0).isSome (zI (lastM fs 1 0)) 0 .nilS (zI (lastM fs 2 0)) 0 .nilS false 0 1 3 (lastM fs 1 0).isSome ((lastM fs 1 0).isSome==(lastM fs 2 0).isSome);have h4:=m_nano hA n fs hn c nl (lastM fs 1 0).isSome (zI (lastM fs 1 0)) 0 .nilS (zI (lastM fs 2 0)) 0 .nilS false 0 1 4 (lastM fs 1 0).isSome (((lastM fs 1 0).isSome==(lastM fs 2 0).isSome)&&gy (lastM fs 1 0).isSome (lastM fs 3 0));rw[show((3:Nat):Int)=3 from rfl] at h3
 rw[show((4:Nat):Int)=4 from rfl] at h4
 have z1:=fun o=>lkN hA 12 o zb
 have y1:=fun o=>lkN hA 63 o zb
 have z2:=fun o=>stN hA 12 o zb
 have y2:=fun o=>stN hA 63 o zb
 have z3:=ed hA;have z4:=jk hA 1 y8;have z5:=cutN hA 1 y8;have z6:=allN hA;rw[e_aj 1 _ _ rfl rfl];simp only[zI,mS,mR,boxX,boxR,aad,List.cons_append,List.nil_append,Bool.true_and] at h2 h3 h4 ⊢;generalize gy (lastM fs 1 0).isSome (lastM fs 3 0)=k3 at *;generalize gy (lastM fs 1 0).isSome (lastM fs 4 0)=k4 at *;generalize nanoI (lastM fs 3 0)=w3 at *;generalize nanoI (lastM fs 4 0)=w4 at *;generalize lastM fs 1 0=o1 at *;generalize lastM fs 2 0=o2 at *;have z7:=diffN (contN2 hA);simp(maxSteps:=2000000) (disch:=first|exact y7|fail) only[go_sem,X_aj,c_aj,hp,h2,h3,h4,z7,z1,y1,z2,y2,z3,z4,z5,z6,List.all_cons,List.all_nil]
def oneU:List Nat→Option Nat
 | [u]=>some u
 |_=>none
def fewU (l:List Nat):Bool:=match l with
 | []=>true
 | [u]=>decide (u≤262144)
 |_=>false
include hA hn hb' in
theorem fill_5 (hk:partM n.kind=5) (hw:wt fs≤100000000):evL cfg n_aj 1 [.ref 0 63 0,.ref 0 12 0] (mS A n fs c nl false 0 0 .nilS 0 0 .nilS false 0 true)=
   if(bm 1 fs []).2=0 then some (.d (.int .i64 (0)),mS A n fs c nl false 0 0 .nilS 0 0 .nilS (oneU (bm 1 fs []).1).isSome (match oneU (bm 1 fs []).1 with|some u=>IntKind.wrap .i64 (u:Int)|none=>0) (fewU (bm 1 fs []).1))
   else some (.d (.int .i64 (((bm 1 fs []).2:Int))),mS A n fs c nl false 0 0 .nilS 0 0 .nilS false 0 true):=by
 have hp:=a8 n.kind;rw[hk] at hp;have h1:=amn fs 1 hn hb' hw;rw[show((1:Nat):Int)=1 from rfl] at h1
 have z1:=fun o=>lkN hA 12 o zb
 have y1:=fun o=>lkN hA 63 o zb
 have z2:=fun o=>stN hA 12 o zb
 have y2:=fun o=>stN hA 63 o zb
 have z3:=ed hA;have z4:=jk hA 1 y8;have z5:=cutN hA 1 y8;have z6:=allN hA;rw[e_aj 1 _ _ rfl rfl];simp only[mS,mR,boxX,boxR,aad,List.cons_append,List.nil_append,Bool.true_and];unfold nr at h1;generalize bm 1 fs []=q at *;by_cases e:q.2=0
 · rw[if_pos e]
   rw[e,show((0:Nat):Int)=0 from rfl] at h1
   cases hq:q.1 with
   | nil=>
    rw[hq] at h1;simp only[List.map_nil,oneU,fewU,Option.isSome_none] at h1 ⊢;have d_a:decide ((0:Int)≤1)=true:=rfl;simp(maxSteps:=2000000) (disch:=first|exact y7|fail) only[go_sem,X_aj,c_aj,hp,h1,d_a,z1,y1,z2,y2,z3,z4,z5,z6,List.all_cons,List.all_nil]
   | cons u r=>
    cases r with
    | nil=>
     rw[hq] at h1;simp only[List.map_cons,List.map_nil,uD] at h1;simp only[oneU,fewU,Option.isSome_some];have be:decide ((u:Int)≤262144)=decide (u≤262144):=by rw[aal];simp only[zm];omega
     simp(maxSteps:=2000000) (disch:=first|exact y7|fail) only[go_sem,X_aj,c_aj,hp,h1,be,z1,y1,z2,y2,z3,z4,z5,z6,List.all_cons,List.all_nil]
    | cons v r=>
     rw[hq] at h1;simp only[List.map_cons,uD] at h1;simp only[oneU,fewU,Option.isSome_none];have d_a:decide (((r.length+1+1:Nat):Int)≤1)=false:=by simp<;>omega
     have d_b:(((r.length+1+1:Nat):Int)==1)=false:=by simp;omega
     simp(maxSteps:=2000000) (disch:=first|exact y7|fail) only[go_sem,X_aj,c_aj,hp,h1,d_a,d_b,z1,y1,z2,y2,z3,z4,z5,z6,List.all_cons,List.all_nil]
 · rw[if_neg e]
   have e3:((q.2:Int) !=0)=true:=by simp;omega
   simp(maxSteps:=2000000) (disch:=first|exact y7|fail) only[go_sem,X_aj,c_aj,hp,h1,e3,z1,y1,z2,y2,z3,z4,z5,z6,List.all_cons,List.all_nil]
end
end Go.Proofs.YtlcnfnjdelmkdaaGreatDoor
namespace Go.Proofs.YtlcnfnjdelmkdaaGreatDoor
open Go Go.Ev
set_option maxHeartbeats 8000000
def Nd.ty (n:Nd):Ty:= .mk n.kind [] [] n.len n.prec (n.scale:Int)
theorem anm (n:Nd):evL cfg n_ez 0 [.d n.d] []=some (.d n.ty.d,[]):=by
 rw[o_ez,Ty.d_eq];simp(disch:=first|exact y7|fail) only[go_sem,X_ez,c_ez,Nd.d,Nd.ty,Ty.kind,Ty.names,Ty.kids,Ty.len,Ty.prec,Ty.scale,List.map_nil]
def sv0:Sv:=⟨0,false,false,va0,va0,false,0⟩
theorem sv0_d:sv0.d= .agg [.int .i64 0,.bool false,.bool false,.bool false,.int .i64 0,.int .i64 0,.sl [],.sl [],.bool false,.int .i64 0,.int .i64 0,.sl [],.sl [],.bool false,.int .i64 0]:=rfl
def resS (s:Sv) (e:Int):V:= .d (.tup [s.d,.int .i64 e])
def boxA (n:Nd):List (Cel×V):=boxN 0 2 n++[(⟨0,4,0⟩,.d (.int .i64 (0))),(⟨0,4,1⟩,.d (.bool (false))),(⟨0,4,2⟩,.d (.bool (false))),(⟨0,4,3⟩,.d (.bool (false))),(⟨0,4,4⟩,.d (.int .i64 (0))),(⟨0,4,5⟩,.d (.int .i64 (0))),(⟨0,4,6⟩,.d .nilS),(⟨0,4,7⟩,.d .nilS),(⟨0,4,8⟩,.d (.bool (false))),(⟨0,4,9⟩,.d (.int .i64 (0))),(⟨0,4,10⟩,.d (.int .i64 (0))),(⟨0,4,11⟩,.d .nilS),(⟨0,4,12⟩,.d .nilS),(⟨0,4,13⟩,.d (.bool (false))),(⟨0,4,14⟩,.d (.int .i64 (0)))]
theorem aok_A (n:Nd):Aok 0 [12,63] (boxA n):=by
 intro p hp;simp only[boxA,boxN,List.cons_append,List.nil_append,aac,aa5,or_false] at hp;rcases hp with rfl|rfl|rfl|rfl|rfl|rfl|rfl|rfl|rfl|rfl|rfl|rfl|rfl|rfl|rfl|rfl|rfl|rfl|rfl|rfl|rfl|rfl|rfl<;>exact⟨rfl,by simp,_,rfl⟩
def badL (t:Ty) (v:Va):Bool:=j8 t v !=0
theorem b5 (u:Nat):((u:Int) !=0)=(u !=0):=by rw[bne,bne,show(0:Int)=((0:Nat):Int) from rfl,beqN]
section
variable (n:Nd) (b:List UInt8) (hl:b.length≤100000)
include hl
theorem read_e1 (h:(aa b).2≠0):evL cfg n_ak 0 [.d n.d,.d (.sl ((b).map byteD))] []=some (resS sv0 ((aa b).2:Int),[]):=by
 have hp:=bh b y8;rw[o_ak];unfold resS;rw[sv0_d];unfold cd at hp;have e3:(((aa b).2:Int) !=0)=true:=by simp;omega
 generalize aa b=q at *;simp(maxSteps:=2000000) (disch:=first|exact y7|fail) only[go_sem,X_ak,c_ak,Nd.d,hp,e3]
theorem read_e2 (h:(aa b).2=0) (h2:262144<uM (aa b).1 1) (hn:(aa b).1.length≤1000000):evL cfg n_ak 0 [.d n.d,.d (.sl ((b).map byteD))] []=some (resS sv0 2,[]):=by
 have hp:=bh b y8;have u1:=bx (aa b).1 1 hn;have u10:=bx (aa b).1 10 hn;rw[o_ak];unfold resS;rw[sv0_d];unfold cd at hp;rw[h,show((0:Nat):Int)=0 from rfl] at hp
 rw[show((1:Nat):Int)=1 from rfl] at u1
 rw[show((10:Nat):Int)=10 from rfl] at u10
 unfold uM at h2;unfold uintD at u1 u10;generalize(aa b).1=fs at *;have d1:decide ((((lastM fs 1 0).getD fld0).u:Int)>262144)=true:=by simp;omega
 simp(maxSteps:=2000000) (disch:=first|exact y7|fail) only[go_sem,X_ak,c_ak,Nd.d,hp,u1,u10,d1]
theorem bhx (h:(aa b).2=0) (h2:uM (aa b).1 1≤262144) (hn:(aa b).1.length≤1000000) (hb:∀ f∈(aa b).1,f.b.length≤1000000) (hk:partM n.kind=0∨lastM (aa b).1 (partM n.kind).toNat 2=none) (k0:0≤partM n.kind):
   evL cfg n_ak 0 [.d n.d,.d (.sl ((b).map byteD))] []=some (resS ⟨(uM (aa b).1 1:Int),uM (aa b).1 10 !=0,false,va0,va0,false,0⟩ 0,[]):=by
 have hp:=bh b y8;have u1:=bx (aa b).1 1 hn;have u10:=bx (aa b).1 10 hn;have ut:=di (aa b).1 (partM n.kind).toNat hn hb;have pt:=a8 n.kind;rw[aas k0] at ut;rw[o_ak];unfold resS;unfold cd at hp;rw[h,show((0:Nat):Int)=0 from rfl] at hp
 rw[show((1:Nat):Int)=1 from rfl] at u1
 rw[show((10:Nat):Int)=10 from rfl] at u10
 unfold uM at h2 ⊢;unfold uintD at u1 u10;unfold textD at ut;generalize(aa b).1=fs at *;have d1:decide ((((lastM fs 1 0).getD fld0).u:Int)>262144)=false:=by simp;omega
 have d10:=b5 ((lastM fs 10 0).getD fld0).u;generalize((lastM fs 1 0).getD fld0).u=v1 at *;generalize((lastM fs 10 0).getD fld0).u=v10 at *;have w1:IntKind.wrap .i64 (v1:Int)=v1:=az (by simp at d1;omega) (by simp at d1;omega)
 rcases hk with hk|hk
 · rw[hk] at ut pt
   have d0:((0:Int)==0)=true:=rfl;simp(maxSteps:=2000000) (disch:=first|exact y7|fail) only[go_sem,X_ak,c_ak,Nd.d,hp,u1,u10,ut,pt,d1,d10,d0,w1]
   rfl
 · rw[hk] at ut
   simp only[Option.getD_none,Option.isSome_none] at ut;rcases zf (partM n.kind==0) with d0|d0
   · simp(maxSteps:=2000000) (disch:=first|exact y7|fail) only[go_sem,X_ak,c_ak,Nd.d,hp,u1,u10,ut,pt,d1,d10,d0,w1]
     rfl
   · simp(maxSteps:=2000000) (disch:=first|exact y7|fail) only[go_sem,X_ak,c_ak,Nd.d,hp,u1,u10,ut,pt,d1,d10,d0,w1]
     rfl
section
variable {f:Fld} (h:(aa b).2=0) (h2:uM (aa b).1 1≤262144) (hn:(aa b).1.length≤1000000) (hb:∀ f∈(aa b).1,f.b.length≤1000000) (hk:0<partM n.kind) (hf:lastM (aa b).1 (partM n.kind).toNat 2=some f)
include h h2 hn hb hk hf
theorem read_e3 (h3:(aa f.b).2≠0):evL cfg n_ak 0 [.d n.d,.d (.sl ((b).map byteD))] []=some (resS sv0 ((aa f.b).2:Int),[]):=by
 have hp:=bh b y8;have u1:=bx (aa b).1 1 hn;have u10:=bx (aa b).1 10 hn;have ut:=di (aa b).1 (partM n.kind).toNat hn hb;have pt:=a8 n.kind;have hp2:=bh f.b (hb f (fa _ _ hf));rw[aas y8] at ut;rw[hf] at ut;rw[o_ak];unfold resS;rw[sv0_d];unfold cd at hp hp2;rw[h,show((0:Nat):Int)=0 from rfl] at hp
 rw[show((1:Nat):Int)=1 from rfl] at u1
 rw[show((10:Nat):Int)=10 from rfl] at u10
 unfold uM at h2;unfold uintD at u1 u10;unfold textD at ut;simp only[Option.getD_some,Option.isSome_some] at ut;have e3:(((aa f.b).2:Int) !=0)=true:=by simp;omega
 generalize(aa b).1=fs at *;generalize aa f.b=q at *;have d1:decide ((((lastM fs 1 0).getD fld0).u:Int)>262144)=false:=by simp;omega
 generalize((lastM fs 1 0).getD fld0).u=v1 at *;generalize((lastM fs 10 0).getD fld0).u=v10 at *;have w1:IntKind.wrap .i64 (v1:Int)=v1:=az y8 y8;have d0:(partM n.kind==0)=false:=by simp;omega
 simp(maxSteps:=2000000) (disch:=first|exact y7|fail) only[go_sem,X_ak,c_ak,Nd.d,hp,hp2,u1,u10,ut,pt,d1,d0,e3,w1]
def mF (n:Nd) (b:List UInt8) (f:Fld):List (Cel×V):=mS (boxA n) n (aa f.b).1 (uM (aa b).1 1:Int) (uM (aa b).1 10 !=0) false 0 0 .nilS 0 0 .nilS false 0 true
theorem read_e4 (h3:(aa f.b).2=0) (e:Nat) (he:e≠0) (h4:evL cfg n_aj 1 [.ref 0 63 0,.ref 0 12 0] (mF n b f)=some (.d (.int .i64 ((e:Int))),mF n b f)):evL cfg n_ak 0 [.d n.d,.d (.sl ((b).map byteD))] []=some (resS sv0 (e:Int),[]):=by
 have hp:=bh b y8;have u1:=bx (aa b).1 1 hn;have u10:=bx (aa b).1 10 hn;have ut:=di (aa b).1 (partM n.kind).toNat hn hb;have pt:=a8 n.kind;have hp2:=bh f.b (hb f (fa _ _ hf));rw[aas y8] at ut;rw[hf] at ut;rw[o_ak];unfold resS;rw[sv0_d];unfold cd at hp hp2;rw[h,show((0:Nat):Int)=0 from rfl] at hp
 rw[h3,show((0:Nat):Int)=0 from rfl] at hp2
 rw[show((1:Nat):Int)=1 from rfl] at u1
 rw[show((10:Nat):Int)=10 from rfl] at u10
 unfold mF at h4;unfold uM at h2 h4;unfold uintD at u1 u10;unfold textD at ut;simp only[Option.getD_some,Option.isSome_some] at ut;have e3:((e:Int) !=0)=true:=by simp;omega
 generalize(aa b).1=fs at *;generalize(aa f.b).1=q at *;have d1:decide ((((lastM fs 1 0).getD fld0).u:Int)>262144)=false:=by simp;omega
 have d10:=b5 ((lastM fs 10 0).getD fld0).u;generalize((lastM fs 1 0).getD fld0).u=v1 at *;generalize((lastM fs 10 0).getD fld0).u=v10 at *;have w1:IntKind.wrap .i64 (v1:Int)=v1:=az y8 y8;have d0:(partM n.kind==0)=false:=by simp;omega
 simp only[mS,mR,boxA,boxN,boxX,boxR,aad,List.cons_append,List.nil_append] at h4;simp(maxSteps:=2000000) (disch:=first|exact y7|fail) only[go_sem,X_ak,c_ak,Nd.d,hp,hp2,u1,u10,ut,pt,d1,d10,d0,e3,w1,h4]
end
end
