import Derived.Test.YtlcnfnjdelmkdaaGreatDoorPbA
namespace Go.Proofs.YtlcnfnjdelmkdaaGreatDoor
open Go Go.Ev
set_option maxHeartbeats 4000000
theorem shlN {num:Nat} (h:num≤536870911):shlI .u64 (num:Int) 3=((num*8:Nat):Int):=by
 have h1:=shlU (k:= .u64) rfl num (n:=3) ze;rw[show((3:Nat):Int)=3 from rfl] at h1
 rw[h1,show(2:Nat) ^ IntKind.u64.bits=18446744073709551616 from rfl,abg y8]
theorem orN {num w:Nat} (h:num≤536870911) (hw:w<8):orI .u64 ((num*8:Nat):Int) (w:Int)=((num*8+w:Nat):Int):=by
 rw[orU (k:= .u64) rfl (a:=num*8) (b:=w) (by show _<18446744073709551616;omega) (by show w<18446744073709551616;omega),Nat.or_comm]
 have:=amt (a:=w) (b:=num) (n:=3) y8;rw[show(2:Nat) ^ 3=8 from rfl] at this
 rw[this];omega
theorem r8 {b:List UInt8} {num w:Nat} (hb:b.length≤500000) (h1:1≤num) (h2:num≤536870911) (hw:w<8):
  evL cfg n_eo 0 [.d (.sl ((b).map byteD)),.d (.int .i64 ((num:Int))),.d (.int .i64 ((w:Int)))] []=some (.d (.tup [.sl ((b++varB 10 (num*8+w)).map byteD),.bool true]),[]):=by
 rw[o_eo];have d_a:decide ((num:Int)<1)=false:=by simp<;>omega
 have d_c:decide ((num:Int)>536870911)=false:=by simp<;>omega
 have e1:=shlN h2;have e2:=orN h2 hw;have hp:=gx (b:=b) (u:=num*8+w) y8 y8;simp(disch:=first|exact y7|fail) only[go_sem,X_eo,c_eo,d_a,d_c,iw,e1,e2,hp]
theorem my {b:List UInt8} {num v:Nat} (hb:b.length≤500000) (h1:1≤num) (h2:num≤536870911) (hv:v<18446744073709551616):
  evL cfg n_dw 0 [.d (.sl ((b).map byteD)),.d (.int .i64 ((num:Int))),.d (.int .u64 ((v:Int)))] []=some (.d (.sl ((b++uintF num v).map byteD)),[]):=by
 rw[o_dw];have hh:=r8 (b:=b) (num:=num) (w:=0) hb h1 h2 y8;rw[show((0:Nat):Int)=0 from rfl,Nat.add_zero] at hh
 have hl:=cq 10 (num*8);have hp:=gx (b:=b++varB 10 (num*8)) (u:=v) (by simp;omega) hv
 unfold uintF;rw[← aad];simp(disch:=first|exact y7|fail) only[go_sem,X_dw,c_dw,hh,hp]
theorem k7 {b v:List UInt8} {num:Nat} (hb:b.length≤500000) (h1:1≤num) (h2:num≤536870911) (hv:v.length≤300000):
  evL cfg n_dk 0 [.d (.sl ((b).map byteD)),.d (.int .i64 ((num:Int))),.d (.sl ((v).map byteD))] []=some (.own false 1 ((b++ct num v).map byteD),[]):=by
 rw[o_dk];have hh:=r8 (b:=b) (num:=num) (w:=2) hb h1 h2 y8;rw[show((2:Nat):Int)=2 from rfl] at hh
 have hl:=cq 10 (num*8+2);have hl2:=cq 10 v.length;have hp:=gx (b:=b++varB 10 (num*8+2)) (u:=v.length) (by simp;omega) y8
 have e:(b++ct num v).map byteD=(b++varB 10 (num*8+2)++varB 10 v.length).map byteD++v.map byteD:=by
  unfold ct;simp only[List.map_append,aad]
 rw[e];have hle:(b++varB 10 (num*8+2)++varB 10 v.length).length≤600000:=by simp;omega
 generalize b++varB 10 (num*8+2)++varB 10 v.length=q at *;simp(disch:=first|exact y7|fail) only[go_sem,X_dk,c_dk,hh,zj,hp]
theorem iu {num:Nat} (h1:1≤num) (h2:num≤536870911):evL cfg n_dy 0 [.d (.int .i64 ((num:Int)))] []=some (.d (.bool (true)),[]):=by
 rw[o_dy];have d_a:decide ((num:Int)≥1)=true:=by simp<;>omega
 have d_c:decide ((num:Int)≤536870911)=true:=by simp<;>omega
 simp(disch:=first|exact y7|fail) only[go_sem,X_dy,c_dy,d_a,d_c]
theorem qr {num v:Nat} (h1:1≤num) (h2:num≤536870911) (hv:v<18446744073709551616):
  evL cfg n_ce 0 [.d .nilS,.d (.int .i64 ((num:Int))),.d (.int .u64 ((v:Int)))] []=some (.own false 1 ((uintF num v).map byteD),[]):=by
 rw[o_ce];have hm:=iu h1 h2;have e1:=shlN h2;have hl:=cq 10 (num*8);have hp1:=ku (u:=num*8) y8;have hp2:=ce (b:=varB 10 (num*8)) (u:=v) y8 hv;unfold uintF;simp(disch:=first|exact y7|fail) only[go_sem,X_ce,c_ce,hm,iw,e1,hp1,hp2]
theorem qq {b:List UInt8} {num v:Nat} (hb:b.length≤500000) (h1:1≤num) (h2:num≤536870911) (hv:v<18446744073709551616):
  evL cfg n_ce 0 [.own false 1 (b.map byteD),.d (.int .i64 ((num:Int))),.d (.int .u64 ((v:Int)))] []=some (.own false 1 ((b++uintF num v).map byteD),[]):=by
 rw[show evL cfg n_ce 0 [.own false 1 (b.map byteD),.d (.int .i64 ((num:Int))),.d (.int .u64 ((v:Int)))] []=go X_ce [.c c_ce] ⟨[(0,.own false 1 (b.map byteD)),(1,.d (.int .i64 ((num:Int)))),(2,.d (.int .u64 ((v:Int))))],[]⟩ from ac (fn:=i_ce) rfl rfl _ _ _ rfl rfl]
 have hm:=iu h1 h2;have e1:=shlN h2;have hl:=cq 10 (num*8);have hp1:=ce (b:=b) (u:=num*8) y8 y8;have hp2:=ce (b:=b++varB 10 (num*8)) (u:=v) (by simp;omega) hv
 unfold uintF;rw[← aad];simp(disch:=first|exact y7|fail) only[go_sem,X_ce,c_ce,hm,iw,e1,hp1,hp2]
theorem jg {v:List UInt8} {num:Nat} (h1:1≤num) (h2:num≤536870911) (hv:v.length≤300000):
  evL cfg n_b0 0 [.d .nilS,.d (.int .i64 ((num:Int))),.d (.sl ((v).map byteD))] []=some (.own false 1 ((ct num v).map byteD),[]):=by
 rw[o_b0];have hm:=iu h1 h2;have e1:=shlN h2;have e2:=orN (w:=2) h2 y8;rw[show((2:Nat):Int)=2 from rfl] at e2
 have hl:=cq 10 (num*8+2);have hl2:=cq 10 v.length;have hp1:=ku (u:=num*8+2) y8;have hp2:=ce (b:=varB 10 (num*8+2)) (u:=v.length) y8 y8;have e:(ct num v).map byteD=(varB 10 (num*8+2)++varB 10 v.length).map byteD++v.map byteD:=by
  unfold ct;simp only[List.map_append,aad]
 rw[e];have hle:(varB 10 (num*8+2)++varB 10 v.length).length≤600000:=by simp;omega
 generalize varB 10 (num*8+2)++varB 10 v.length=q at *;simp(disch:=first|exact y7|fail) only[go_sem,X_b0,c_b0,hm,zj,iw,e1,e2,hp1,hp2]
theorem pm {b v:List UInt8} {num:Nat} (hb:b.length≤500000) (h1:1≤num) (h2:num≤536870911) (hv:v.length≤300000):
  evL cfg n_b0 0 [.own false 1 (b.map byteD),.d (.int .i64 ((num:Int))),.d (.sl ((v).map byteD))] []=some (.own false 1 ((b++ct num v).map byteD),[]):=by
 rw[show evL cfg n_b0 0 [.own false 1 (b.map byteD),.d (.int .i64 ((num:Int))),.d (.sl ((v).map byteD))] []=go X_b0 [.c c_b0] ⟨[(0,.own false 1 (b.map byteD)),(1,.d (.int .i64 ((num:Int)))),(2,.d (.sl ((v).map byteD)))],[]⟩ from ac (fn:=i_b0) rfl rfl _ _ _ rfl rfl]
 have hm:=iu h1 h2;have e1:=shlN h2;have e2:=orN (w:=2) h2 y8;rw[show((2:Nat):Int)=2 from rfl] at e2
 have hl:=cq 10 (num*8+2);have hl2:=cq 10 v.length;have hp1:=ce (b:=b) (u:=num*8+2) y8 y8;have hp2:=ce (b:=b++varB 10 (num*8+2)) (u:=v.length) (by simp;omega) y8
 have e:(b++ct num v).map byteD=(b++varB 10 (num*8+2)++varB 10 v.length).map byteD++v.map byteD:=by
  unfold ct;simp only[List.map_append,aad]
 rw[e];have hle:(b++varB 10 (num*8+2)++varB 10 v.length).length≤600000:=by simp;omega
 generalize b++varB 10 (num*8+2)++varB 10 v.length=q at *;simp(disch:=first|exact y7|fail) only[go_sem,X_b0,c_b0,hm,zj,iw,e1,e2,hp1,hp2]
