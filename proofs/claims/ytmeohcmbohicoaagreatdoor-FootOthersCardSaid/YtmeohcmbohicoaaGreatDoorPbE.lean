import Derived.Test.YtmeohcmbohicoaaGreatDoorPbA
namespace Go.Proofs.YtmeohcmbohicoaaGreatDoor
open Go Go.Ev
set_option maxHeartbeats 4000000
theorem shlN {num:Nat} (h:num≤536870911):shlI .u64 (num:Int) 3=((num*8:Nat):Int):=by
 have h1:=shlU (k:= .u64) rfl num (n:=3) vr;rw[show((3:Nat):Int)=3 from rfl] at h1
 rw[h1,show(2:Nat) ^ IntKind.u64.bits=18446744073709551616 from rfl,Nat.mod_eq_of_lt vn]
theorem orN {num w:Nat} (h:num≤536870911) (hw:w<8):orI .u64 ((num*8:Nat):Int) (w:Int)=((num*8+w:Nat):Int):=by
 rw[orU (k:= .u64) rfl (a:=num*8) (b:=w) (by show _<18446744073709551616;omega) (by show w<18446744073709551616;omega),Nat.or_comm]
 have:=auh (a:=w) (b:=num) (n:=3) vn;rw[show(2:Nat) ^ 3=8 from rfl] at this
 rw[this];omega
theorem fe {num:Nat} (h1:1≤num) (h2:num≤536870911):evL cfg n_bz 0 [.d (.int .i64 ((num:Int)))] []=some (.d (.bool (true)),[]):=by
 rw[o_bz];have d_a:decide ((num:Int)≥1)=true:=by simp<;>omega
 have d_c:decide ((num:Int)≤536870911)=true:=by simp<;>omega
 simp(disch:=first|exact vm|fail) only[go_sem,X_bz,c_bz,d_a,d_c]
theorem bv {num v:Nat} (h1:1≤num) (h2:num≤536870911) (hv:v<18446744073709551616):
  evL cfg n_bf 0 [.d .nilS,.d (.int .i64 ((num:Int))),.d (.int .u64 ((v:Int)))] []=some (.own false 1 ((uintF num v).map byteD),[]):=by
 rw[o_bf];have hm:=fe h1 h2;have e1:=shlN h2;have hl:=cl 10 (num*8);have hp1:=er (u:=num*8) vn;have hp2:=bn (b:=varB 10 (num*8)) (u:=v) vn hv;unfold uintF;simp(disch:=first|exact vm|fail) only[go_sem,X_bf,c_bf,hm,m9,e1,hp1,hp2]
theorem bb {b:List UInt8} {num v:Nat} (hb:b.length≤500000) (h1:1≤num) (h2:num≤536870911) (hv:v<18446744073709551616):
  evL cfg n_bf 0 [.own false 1 (b.map byteD),.d (.int .i64 ((num:Int))),.d (.int .u64 ((v:Int)))] []=some (.own false 1 ((b++uintF num v).map byteD),[]):=by
 rw[show evL cfg n_bf 0 [.own false 1 (b.map byteD),.d (.int .i64 ((num:Int))),.d (.int .u64 ((v:Int)))] []=go X_bf [.c c_bf] ⟨[(0,.own false 1 (b.map byteD)),(1,.d (.int .i64 ((num:Int)))),(2,.d (.int .u64 ((v:Int))))],[]⟩ from ap (fn:=i_bf) rfl rfl _ _ _ rfl rfl]
 have hm:=fe h1 h2;have e1:=shlN h2;have hl:=cl 10 (num*8);have hp1:=bn (b:=b) (u:=num*8) vn vn;have hp2:=bn (b:=b++varB 10 (num*8)) (u:=v) (by simp;omega) hv
 unfold uintF;rw[← wh];simp(disch:=first|exact vm|fail) only[go_sem,X_bf,c_bf,hm,m9,e1,hp1,hp2]
theorem me {v:List UInt8} {num:Nat} (h1:1≤num) (h2:num≤536870911) (hv:v.length≤300000):
  evL cfg n_ba 0 [.d .nilS,.d (.int .i64 ((num:Int))),.d (.sl ((v).map byteD))] []=some (.own false 1 ((av num v).map byteD),[]):=by
 rw[o_ba];have hm:=fe h1 h2;have e1:=shlN h2;have e2:=orN (w:=2) h2 vn;rw[show((2:Nat):Int)=2 from rfl] at e2
 have hl:=cl 10 (num*8+2);have hl2:=cl 10 v.length;have hp1:=er (u:=num*8+2) vn;have hp2:=bn (b:=varB 10 (num*8+2)) (u:=v.length) vn vn;have e:(av num v).map byteD=(varB 10 (num*8+2)++varB 10 v.length).map byteD++v.map byteD:=by
  unfold av;simp only[List.map_append,wh]
 rw[e];have hle:(varB 10 (num*8+2)++varB 10 v.length).length≤600000:=by simp;omega
 generalize varB 10 (num*8+2)++varB 10 v.length=q at *;simp(disch:=first|exact vm|fail) only[go_sem,X_ba,c_ba,hm,vu,m9,e1,e2,hp1,hp2]
theorem bl {b v:List UInt8} {num:Nat} (hb:b.length≤500000) (h1:1≤num) (h2:num≤536870911) (hv:v.length≤300000):
  evL cfg n_ba 0 [.own false 1 (b.map byteD),.d (.int .i64 ((num:Int))),.d (.sl ((v).map byteD))] []=some (.own false 1 ((b++av num v).map byteD),[]):=by
 rw[show evL cfg n_ba 0 [.own false 1 (b.map byteD),.d (.int .i64 ((num:Int))),.d (.sl ((v).map byteD))] []=go X_ba [.c c_ba] ⟨[(0,.own false 1 (b.map byteD)),(1,.d (.int .i64 ((num:Int)))),(2,.d (.sl ((v).map byteD)))],[]⟩ from ap (fn:=i_ba) rfl rfl _ _ _ rfl rfl]
 have hm:=fe h1 h2;have e1:=shlN h2;have e2:=orN (w:=2) h2 vn;rw[show((2:Nat):Int)=2 from rfl] at e2
 have hl:=cl 10 (num*8+2);have hl2:=cl 10 v.length;have hp1:=bn (b:=b) (u:=num*8+2) vn vn;have hp2:=bn (b:=b++varB 10 (num*8+2)) (u:=v.length) (by simp;omega) vn
 have e:(b++av num v).map byteD=(b++varB 10 (num*8+2)++varB 10 v.length).map byteD++v.map byteD:=by
  unfold av;simp only[List.map_append,wh]
 rw[e];have hle:(b++varB 10 (num*8+2)++varB 10 v.length).length≤600000:=by simp;omega
 generalize b++varB 10 (num*8+2)++varB 10 v.length=q at *;simp(disch:=first|exact vm|fail) only[go_sem,X_ba,c_ba,hm,vu,m9,e1,e2,hp1,hp2]
