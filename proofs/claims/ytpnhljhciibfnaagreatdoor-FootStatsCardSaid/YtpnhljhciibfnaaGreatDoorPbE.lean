import Derived.Test.YtpnhljhciibfnaaGreatDoorPbA
namespace Go.Proofs.YtpnhljhciibfnaaGreatDoor
open Go Go.Ev
set_option maxHeartbeats 4000000
theorem Uz {num:Nat} (h:num≤536870911):GJ .u64 (num:Int) 3=((num*8:Nat):Int):=by
 have h1:=Hu (k:= .u64) rfl num (n:=3) aa4;rw[show((3:Nat):Int)=3 from rfl] at h1
 rw[h1,show(2:Nat) ^ IntKind.u64.bits=18446744073709551616 from rfl,acv aa1]
theorem orN {num w:Nat} (h:num≤536870911) (hw:w<8):orI .u64 ((num*8:Nat):Int) (w:Int)=((num*8+w:Nat):Int):=by
 rw[orU (k:= .u64) rfl (a:=num*8) (b:=w) (by show _<18446744073709551616;omega) (by show w<18446744073709551616;omega),Nat.or_comm]
 have:=wy (a:=w) (b:=num) (n:=3) aa1;rw[show(2:Nat) ^ 3=8 from rfl] at this
 rw[this];omega
theorem t8 {b:List UInt8} {num w:Nat} (hb:b.length≤500000) (h1:1≤num) (h2:num≤536870911) (hw:w<8):
  evL cfg Rf 0 [.d (.sl ((b).map AM)),.d (.int .i64 ((num:Int))),.d (.int .i64 ((w:Int)))] []=some (.d (.tup [.sl ((b++Ai 10 (num*8+w)).map AM),.bool true]),[]):=by
 rw[o_fm];have d_a:decide ((num:Int)<1)=false:=by simp<;>omega
 have d_c:decide ((num:Int)>536870911)=false:=by simp<;>omega
 have e1:=Uz h2;have e2:=orN h2 hw;have hp:=eu (b:=b) (u:=num*8+w) aa1 aa1;simp(disch:=first|exact aa0|fail) only[go_sem,X_fm,Zm,d_a,d_c,f7,e1,e2,hp]
theorem dz {b:List UInt8} {num v:Nat} (hb:b.length≤500000) (h1:1≤num) (h2:num≤536870911) (hv:v<18446744073709551616):
  evL cfg Gw 0 [.d (.sl ((b).map AM)),.d (.int .i64 ((num:Int))),.d (.int .u64 ((v:Int)))] []=some (.d (.sl ((b++AZ num v).map AM)),[]):=by
 rw[o_ec];have hh:=t8 (b:=b) (num:=num) (w:=0) hb h1 h2 aa1;rw[show((0:Nat):Int)=0 from rfl,Nat.add_zero] at hh
 have hl:=bu 10 (num*8);have hp:=eu (b:=b++Ai 10 (num*8)) (u:=v) (by simp;omega) hv
 unfold AZ;rw[← abv];simp(disch:=first|exact aa0|fail) only[go_sem,X_ec,Z0,hh,hp]
theorem me {b v:List UInt8} {num:Nat} (hb:b.length≤500000) (h1:1≤num) (h2:num≤536870911) (hv:v.length≤300000):
  evL cfg Rn 0 [.d (.sl ((b).map AM)),.d (.int .i64 ((num:Int))),.d (.sl ((v).map AM))] []=some (.own false 1 ((b++ah num v).map AM),[]):=by
 rw[o_dy];have hh:=t8 (b:=b) (num:=num) (w:=2) hb h1 h2 aa1;rw[show((2:Nat):Int)=2 from rfl] at hh
 have hl:=bu 10 (num*8+2);have hl2:=bu 10 v.length;have hp:=eu (b:=b++Ai 10 (num*8+2)) (u:=v.length) (by simp;omega) aa1
 have e:(b++ah num v).map AM=(b++Ai 10 (num*8+2)++Ai 10 v.length).map AM++v.map AM:=by
  unfold ah;simp only[List.map_append,abv]
 rw[e];have hle:(b++Ai 10 (num*8+2)++Ai 10 v.length).length≤600000:=by simp;omega
 generalize b++Ai 10 (num*8+2)++Ai 10 v.length=q at *;simp(disch:=first|exact aa0|fail) only[go_sem,X_dy,Z1,hh,abl,hp]
theorem jk {num:Nat} (h1:1≤num) (h2:num≤536870911):evL cfg Rl 0 [.d (.int .i64 ((num:Int)))] []=some (.d (.bool (true)),[]):=by
 rw[o_en];have d_a:decide ((num:Int)≥1)=true:=by simp<;>omega
 have d_c:decide ((num:Int)≤536870911)=true:=by simp<;>omega
 simp(disch:=first|exact aa0|fail) only[go_sem,X_en,Zu,d_a,d_c]
theorem kw {num v:Nat} (h1:1≤num) (h2:num≤536870911) (hv:v<18446744073709551616):
  evL cfg FV 0 [.d .AB,.d (.int .i64 ((num:Int))),.d (.int .u64 ((v:Int)))] []=some (.own false 1 ((AZ num v).map AM),[]):=by
 rw[o_cf];have hm:=jk h1 h2;have e1:=Uz h2;have hl:=bu 10 (num*8);have hp1:=em (u:=num*8) aa1;have hp2:=co (b:=Ai 10 (num*8)) (u:=v) aa1 hv;unfold AZ;simp(disch:=first|exact aa0|fail) only[go_sem,bQ,UH,hm,f7,e1,hp1,hp2]
theorem bq {b:List UInt8} {num v:Nat} (hb:b.length≤500000) (h1:1≤num) (h2:num≤536870911) (hv:v<18446744073709551616):
  evL cfg FV 0 [.own false 1 (b.map AM),.d (.int .i64 ((num:Int))),.d (.int .u64 ((v:Int)))] []=some (.own false 1 ((b++AZ num v).map AM),[]):=by
 rw[show evL cfg FV 0 [.own false 1 (b.map AM),.d (.int .i64 ((num:Int))),.d (.int .u64 ((v:Int)))] []=go bQ [.c UH] ⟨[(0,.own false 1 (b.map AM)),(1,.d (.int .i64 ((num:Int)))),(2,.d (.int .u64 ((v:Int))))],[]⟩ from ab (fn:=Y6) rfl rfl _ _ _ rfl rfl]
 have hm:=jk h1 h2;have e1:=Uz h2;have hl:=bu 10 (num*8);have hp1:=co (b:=b) (u:=num*8) aa1 aa1;have hp2:=co (b:=b++Ai 10 (num*8)) (u:=v) (by simp;omega) hv
 unfold AZ;rw[← abv];simp(disch:=first|exact aa0|fail) only[go_sem,bQ,UH,hm,f7,e1,hp1,hp2]
theorem bo {v:List UInt8} {num:Nat} (h1:1≤num) (h2:num≤536870911) (hv:v.length≤300000):
  evL cfg EA 0 [.d .AB,.d (.int .i64 ((num:Int))),.d (.sl ((v).map AM))] []=some (.own false 1 ((ah num v).map AM),[]):=by
 rw[o_b0];have hm:=jk h1 h2;have e1:=Uz h2;have e2:=orN (w:=2) h2 aa1;rw[show((2:Nat):Int)=2 from rfl] at e2
 have hl:=bu 10 (num*8+2);have hl2:=bu 10 v.length;have hp1:=em (u:=num*8+2) aa1;have hp2:=co (b:=Ai 10 (num*8+2)) (u:=v.length) aa1 aa1;have e:(ah num v).map AM=(Ai 10 (num*8+2)++Ai 10 v.length).map AM++v.map AM:=by
  unfold ah;simp only[List.map_append,abv]
 rw[e];have hle:(Ai 10 (num*8+2)++Ai 10 v.length).length≤600000:=by simp;omega
 generalize Ai 10 (num*8+2)++Ai 10 v.length=q at *;simp(disch:=first|exact aa0|fail) only[go_sem,bR,UJ,hm,abl,f7,e1,e2,hp1,hp2]
theorem b0 {b v:List UInt8} {num:Nat} (hb:b.length≤500000) (h1:1≤num) (h2:num≤536870911) (hv:v.length≤300000):
  evL cfg EA 0 [.own false 1 (b.map AM),.d (.int .i64 ((num:Int))),.d (.sl ((v).map AM))] []=some (.own false 1 ((b++ah num v).map AM),[]):=by
 rw[show evL cfg EA 0 [.own false 1 (b.map AM),.d (.int .i64 ((num:Int))),.d (.sl ((v).map AM))] []=go bR [.c UJ] ⟨[(0,.own false 1 (b.map AM)),(1,.d (.int .i64 ((num:Int)))),(2,.d (.sl ((v).map AM)))],[]⟩ from ab (fn:=Y8) rfl rfl _ _ _ rfl rfl]
 have hm:=jk h1 h2;have e1:=Uz h2;have e2:=orN (w:=2) h2 aa1;rw[show((2:Nat):Int)=2 from rfl] at e2
 have hl:=bu 10 (num*8+2);have hl2:=bu 10 v.length;have hp1:=co (b:=b) (u:=num*8+2) aa1 aa1;have hp2:=co (b:=b++Ai 10 (num*8+2)) (u:=v.length) (by simp;omega) aa1
 have e:(b++ah num v).map AM=(b++Ai 10 (num*8+2)++Ai 10 v.length).map AM++v.map AM:=by
  unfold ah;simp only[List.map_append,abv]
 rw[e];have hle:(b++Ai 10 (num*8+2)++Ai 10 v.length).length≤600000:=by simp;omega
 generalize b++Ai 10 (num*8+2)++Ai 10 v.length=q at *;simp(disch:=first|exact aa0|fail) only[go_sem,bR,UJ,hm,abl,f7,e1,e2,hp1,hp2]
