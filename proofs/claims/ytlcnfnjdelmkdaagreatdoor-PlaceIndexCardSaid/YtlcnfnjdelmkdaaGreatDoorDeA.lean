import Derived.Test.YtlcnfnjdelmkdaaGreatDoorNuA
import Derived.Test.YtlcnfnjdelmkdaaGreatDoorL9
namespace Go.Proofs.YtlcnfnjdelmkdaaGreatDoor
open Go Go.Ev
set_option maxHeartbeats 4000000
theorem om {v:Int} (h:inI v):evL cfg n_ed 0 [.d (.int .i64 (v))] []=some (.d (.int .u64 ((v.natAbs:Int))),[]):=by
 rw[o_ed];unfold inI at h;rcases zf (decide (v<0)) with d_a|d_a<;>have p_a:=d_a<;>simp only[zm,zl,aaa,zp,ne_eq] at p_a<;>simp(disch:=first|exact y7|fail) only[go_sem,X_ed,c_ed,d_a,mg]<;>first|done|with_reducible rfl| (simp only[Option.some.injEq,Prod.mk.injEq,V.d.injEq,D.int.injEq,D.tup.injEq,D.bool.injEq,List.cons.injEq,and_true,true_and];omega)
theorem xq {v:Int} (h:inI v):evL cfg n_ef 0 [.d (.int .i64 (v))] []=some (.d (.int .u64 ((v.natAbs:Int))),[]):=by
 rw[o_ef];unfold inI at h;rcases zf (decide (v<0)) with d_a|d_a<;>have p_a:=d_a<;>simp only[zm,zl,aaa,zp,ne_eq] at p_a<;>simp(disch:=first|exact y7|fail) only[go_sem,X_ef,c_ef,d_a,mg]<;>first|done|with_reducible rfl| (simp only[Option.some.injEq,Prod.mk.injEq,V.d.injEq,D.int.injEq,D.tup.injEq,D.bool.injEq,List.cons.injEq,and_true,true_and];omega)
theorem oa {v:Int} (h:inI v):evL cfg n_c6 0 [.d (.int .i64 (v))] []=some (.d (.int .u64 ((v.natAbs:Int))),[]):=by
 rw[o_c6];unfold inI at h;rcases zf (decide (v<0)) with d_a|d_a<;>have p_a:=d_a<;>simp only[zm,zl,aaa,zp,ne_eq] at p_a<;>simp(disch:=first|exact y7|fail) only[go_sem,X_c6,c_c6,d_a,mg]<;>first|done|with_reducible rfl| (simp only[Option.some.injEq,Prod.mk.injEq,V.d.injEq,D.int.injEq,D.tup.injEq,D.bool.injEq,List.cons.injEq,and_true,true_and];omega)
theorem tt {v:Int} (h:inI v):evL cfg n_cx 0 [.d (.int .i64 (v))] []=some (.d (.int .u64 ((v.natAbs:Int))),[]):=by
 rw[o_cx];unfold inI at h;rcases zf (decide (v<0)) with d_a|d_a<;>have p_a:=d_a<;>simp only[zm,zl,aaa,zp,ne_eq] at p_a<;>simp(disch:=first|exact y7|fail) only[go_sem,X_cx,c_cx,d_a,mg]<;>first|done|with_reducible rfl| (simp only[Option.some.injEq,Prod.mk.injEq,V.d.injEq,D.int.injEq,D.tup.injEq,D.bool.injEq,List.cons.injEq,and_true,true_and];omega)
theorem br4 {x y:Nat} (hx:x<18446744073709551616) (hy:y<18446744073709551616):evL cfg n_gc 0 [.d (.int .u64 ((x:Int))),.d (.int .u64 ((y:Int)))] []=some (.d (.tup [.int .u64 ((x*y / 18446744073709551616:Nat):Int),.int .u64 ((x*y % 18446744073709551616:Nat):Int)]),[]):=by
 rw[xn (g:=q9) rfl];have e:allD [.d (.int .u64 ((x:Int))),.d (.int .u64 ((y:Int)))]=some [.int .u64 (x:Int),.int .u64 (y:Int)]:=rfl;rw[e,Option.bind_some,mul64_at hx hy,Option.map_some]
theorem amx {a b:Int} (ha:inI a) (hb:inI b):evL cfg n_dz 0 [.d (.int .i64 (a)),.d (.int .i64 (b))] []=some (.d (.tup [.int .i64 (addM a b).1,.bool (addM a b).2]),[]):=by
 rw[o_dz];have ha':=ha;have hb':=hb;unfold inI at ha hb;unfold addM;have wb:inI (a+b)∨(9223372036854775808≤a+b∧IntKind.i64.wrap (a+b)=a+b-18446744073709551616)∨(a+b< -9223372036854775808∧IntKind.i64.wrap (a+b)=a+b+18446744073709551616):=by
   unfold inI;rcases(by omega:(-9223372036854775808≤a+b∧a+b<9223372036854775808)∨9223372036854775808≤a+b∨a+b< -9223372036854775808) with h|h|h
   · exact .inl h
   · exact .inr (.inl ⟨h,p7 h y8⟩)
   · exact .inr (.inr ⟨h,by
      simp[IntKind.wrap,IntKind.signed,IntKind.bits];omega⟩)
 rcases zf ((b==0)) with d_z|d_z<;>have p_z:=d_z<;>simp only[zm,zl,aaa,zp,ne_eq] at p_z
 · subst p_z
   simp only[Int.add_zero] at *;rw[if_pos ha'];rcases zf (decide (a>a)) with d_p|d_p<;>have p_p:=d_p<;>simp only[zm,zl,aaa,zp,ne_eq] at p_p
   · omega
   · have e:IntKind.i64.wrap a=a:=az ha.1 ha.2
     simp(disch:=first|exact y7|fail) only[go_sem,X_dz,c_dz,Int.add_zero,d_p,e,show decide ((0:Int)>0)=false by decide,show((0:Int) !=0)=false by decide,b9]
 · have e0:(b !=0)=true:=by simp[p_z]
   rcases wb with h|⟨h,e⟩|⟨h,e⟩
   · rw[if_pos h]
     unfold inI at h;have e:=az h.1 h.2;have d1:decide (a+b>a)=decide (b>0):=by
      congr 1
      apply propext;constructor<;>intro<;>omega
     simp(disch:=first|exact y7|fail) only[go_sem,X_dz,c_dz,e,e0,d1,b9]
   · rw[if_neg (by unfold inI;omega)]
     have d1:decide (a+b-18446744073709551616>a)=false:=by simp;omega
     have d2:decide (b>0)=true:=by simp;omega
     simp(disch:=first|exact y7|fail) only[go_sem,X_dz,c_dz,e,e0,d1,d2,b9,show(false==true)=false by rfl]
   · rw[if_neg (by unfold inI;omega)]
     have d1:decide (a+b+18446744073709551616>a)=true:=by simp;omega
     have d2:decide (b>0)=false:=by simp;omega
     simp(disch:=first|exact y7|fail) only[go_sem,X_dz,c_dz,e,e0,d1,d2,b9,show(true==false)=false by rfl]
theorem yz {a b:Int} (ha:inI a) (hb:inI b):evL cfg n_c5 0 [.d (.int .i64 (a)),.d (.int .i64 (b))] []=some (.d (.tup [.int .i64 (addM a b).1,.bool (addM a b).2]),[]):=by
 rw[o_c5];unfold inI at ha hb;unfold addM;by_cases hi:inI (a+b)
 · rw[if_pos hi]
   unfold inI at hi;rcases zf (decide (b>0)) with d_p|d_p<;>have p_p:=d_p<;>simp only[zm,zl,aaa,zp,ne_eq] at p_p
   · have d_q:decide (a>9223372036854775807-b)=false:=by simp<;>omega
     have d_r:decide (b<0)=false:=by simp<;>omega
     simp(disch:=first|exact y7|fail) only[go_sem,X_c5,c_c5,d_p,d_q,d_r]
   · rcases zf (decide (b<0)) with d_r|d_r<;>have p_r:=d_r<;>simp only[zm,zl,aaa,zp,ne_eq] at p_r
     · have d_q:decide (a< -9223372036854775808-b)=false:=by simp<;>omega
       simp(disch:=first|exact y7|fail) only[go_sem,X_c5,c_c5,d_p,d_q,d_r]
     · simp(disch:=first|exact y7|fail) only[go_sem,X_c5,c_c5,d_p,d_r]
 · rw[if_neg hi]
   unfold inI at hi;rcases zf (decide (b>0)) with d_p|d_p<;>have p_p:=d_p<;>simp only[zm,zl,aaa,zp,ne_eq] at p_p
   · have d_q:decide (a>9223372036854775807-b)=true:=by simp<;>omega
     simp(disch:=first|exact y7|fail) only[go_sem,X_c5,c_c5,d_p,d_q]
   · have d_r:decide (b<0)=true:=by simp<;>omega
     have d_q:decide (a< -9223372036854775808-b)=true:=by simp<;>omega
     simp(disch:=first|exact y7|fail) only[go_sem,X_c5,c_c5,d_p,d_q,d_r]
theorem amw {a b:Int} (ha:inI a) (hb:inI b):evL cfg n_ct 0 [.d (.int .i64 (a)),.d (.int .i64 (b))] []=some (.d (.tup [.int .i64 (mulM a b).1,.bool (mulM a b).2]),[]):=by
 rw[o_ct];have hsa:=om ha;have hsb:=om hb;have hm:=br4 (x:=a.natAbs) (y:=b.natAbs) (by unfold inI at ha;omega) (by unfold inI at hb;omega)
 have hmul:=mulM_abs a b;unfold inI at ha hb;rcases zf ((a==0)) with d_za|d_za<;>have p_za:=d_za<;>simp only[zm,zl,aaa,zp,ne_eq] at p_za
 · have e:mulM a b=(0,true):=by rw[p_za];unfold mulM;rw[Int.zero_mul,if_pos (by unfold inI;omega)]
   simp(disch:=first|exact y7|fail) only[go_sem,X_ct,c_ct,d_za,e]
 rcases zf ((b==0)) with d_zb|d_zb<;>have p_zb:=d_zb<;>simp only[zm,zl,aaa,zp,ne_eq] at p_zb
 · have e:mulM a b=(0,true):=by rw[p_zb];unfold mulM;rw[Int.mul_zero,if_pos (by unfold inI;omega)]
   simp(disch:=first|exact y7|fail) only[go_sem,X_ct,c_ct,d_za,d_zb,e]
 have hmul:=hmul p_za p_zb;generalize a.natAbs*b.natAbs=m at *;by_cases h1:m<9223372036854775808
 · have q1:(((m / 18446744073709551616:Nat):Int) !=0)=false:=by simp;omega
   have q2:decide ((m:Int)>9223372036854775808)=false:=by simp;omega
   have q3:((m:Int)==9223372036854775808)=false:=by simp;omega
   have q4:((m % 18446744073709551616:Nat):Int)=m:=y8;rw[hmul.1 h1];rcases zf (decide (a<0)) with d_a|d_a<;>have p_a:=d_a<;>simp only[zm,zl,aaa,zp,ne_eq] at p_a<;>rcases zf (decide (b<0)) with d_b|d_b<;>have p_b:=d_b<;>simp only[zm,zl,aaa,zp,ne_eq] at p_b<;>simp(disch:=first|exact y7|fail) only[go_sem,X_ct,c_ct,d_za,d_zb,hsa,hsb,hm,d_a,d_b,q1,q2,q3,q4,b9,show(false==true)=false by rfl,show(true==false)=false by rfl,Int.zero_sub,show 0-((m:Int)-18446744073709551616)-18446744073709551616= -(m:Int) by omega,show -((m:Int)-18446744073709551616)-18446744073709551616= -(m:Int) by omega]
 · by_cases h2:m=9223372036854775808
   · have q1:(((m / 18446744073709551616:Nat):Int) !=0)=false:=by simp;omega
     have q2:decide ((m:Int)>9223372036854775808)=false:=by simp;omega
     have q3:((m:Int)==9223372036854775808)=true:=by simp;omega
     have q4:((m % 18446744073709551616:Nat):Int)=m:=y8;rw[hmul.2.1 h2];rcases zf (decide (a<0)) with d_a|d_a<;>have p_a:=d_a<;>simp only[zm,zl,aaa,zp,ne_eq] at p_a<;>rcases zf (decide (b<0)) with d_b|d_b<;>have p_b:=d_b<;>simp only[zm,zl,aaa,zp,ne_eq] at p_b<;>simp(disch:=first|exact y7|fail) only[go_sem,X_ct,c_ct,d_za,d_zb,hsa,hsb,hm,d_a,d_b,q1,q2,q3,q4,b9,p7,show(false==true)=false by rfl,show(true==false)=false by rfl,Int.zero_sub,show 0-((m:Int)-18446744073709551616)-18446744073709551616= -(m:Int) by omega,show -((m:Int)-18446744073709551616)-18446744073709551616= -(m:Int) by omega]
   · rw[hmul.2.2 y8]
     by_cases h3:m / 18446744073709551616=0
     · have q1:(((m / 18446744073709551616:Nat):Int) !=0)=false:=by simp;omega
       have q2:decide (((m % 18446744073709551616:Nat):Int)>9223372036854775808)=true:=by simp;omega
       simp(disch:=first|exact y7|fail) only[go_sem,X_ct,c_ct,d_za,d_zb,hsa,hsb,hm,q1,q2,b9]
     · have q1:(((m / 18446744073709551616:Nat):Int) !=0)=true:=by simp;omega
       simp(disch:=first|exact y7|fail) only[go_sem,X_ct,c_ct,d_za,d_zb,hsa,hsb,hm,q1,b9]
theorem yy {a b:Int} (ha:inI a) (hb:inI b):evL cfg n_bu 0 [.d (.int .i64 (a)),.d (.int .i64 (b))] []=some (.d (.tup [.int .i64 (mulM a b).1,.bool (mulM a b).2]),[]):=by
 rw[o_bu];have hsa:=oa ha;have hsb:=oa hb;have hR:=mulM_ref a b;unfold inI at ha hb;by_cases za:a.natAbs=0
 · have e:mulM a b=(0,true):=by rw[show a=0 by omega];unfold mulM;rw[Int.zero_mul,if_pos (by unfold inI;omega)]
   have q1:((a.natAbs:Int) !=0)=false:=by simp;omega
   have q2:a*b=0:=by rw[show a=0 by omega,Int.zero_mul]
   rcases zf (decide (a<0)) with d_a|d_a<;>have p_a:=d_a<;>simp only[zm,zl,aaa,zp,ne_eq] at p_a<;>rcases zf (decide (b<0)) with d_b|d_b<;>have p_b:=d_b<;>simp only[zm,zl,aaa,zp,ne_eq] at p_b<;>simp(disch:=first|exact y7|fail) only[go_sem,X_bu,c_bu,d_a,d_b,hsa,hsb,q1,q2,e,b9,show(false==true)=false by rfl,show(true==false)=false by rfl]<;>omega
 · have q1:((a.natAbs:Int) !=0)=true:=by simp;omega
   have hR:=hR za;have t1:(9223372036854775807:Int).tdiv (a.natAbs:Int)=((9223372036854775807 / a.natAbs:Nat):Int):=by rw[tdp y8];rfl
   have t2:(9223372036854775808:Int).tdiv (a.natAbs:Int)=((9223372036854775808 / a.natAbs:Nat):Int):=by rw[tdp y8];rfl
   have b1:9223372036854775807 / a.natAbs≤9223372036854775807:=Nat.div_le_self _ _;have b2:9223372036854775808 / a.natAbs≤9223372036854775808:=Nat.div_le_self _ _;have hk:∀ top:Nat,decide ((b.natAbs:Int)>((top / a.natAbs:Nat):Int))=decide (b.natAbs>top / a.natAbs):=fun top=>by
     congr 1
     apply propext;constructor<;>intro<;>omega
   have k1:=hk 9223372036854775807;have k2:=hk 9223372036854775808;clear hk;generalize 9223372036854775807 / a.natAbs=Q1 at *;generalize 9223372036854775808 / a.natAbs=Q2 at *;rcases zf (decide (a<0)) with d_a|d_a<;>have p_a:=d_a<;>simp only[zm,zl,aaa,zp,ne_eq] at p_a<;>rcases zf (decide (b<0)) with d_b|d_b<;>have p_b:=d_b<;>simp only[zm,zl,aaa,zp,ne_eq] at p_b
   · have hR:=hR.1 (by simp[p_a,p_b])
     by_cases c:b.natAbs>Q1
     · rw[decide_eq_true c] at k1
       rw[hR.1 c];simp(disch:=first|exact y7|fail) only[go_sem,X_bu,c_bu,d_a,d_b,hsa,hsb,q1,t1,k1,gz,b9]
     · rw[decide_eq_false c] at k1
       obtain⟨e1,e2⟩:=hR.2 c;rw[e1];unfold inI at e2;simp(disch:=first|exact y7|fail) only[go_sem,X_bu,c_bu,d_a,d_b,hsa,hsb,q1,t1,k1,gz,b9]
   · have hR:=hR.2 (by simp[p_a,p_b])
     by_cases c:b.natAbs>Q2
     · rw[decide_eq_true c] at k2
       rw[hR.1 c];simp(disch:=first|exact y7|fail) only[go_sem,X_bu,c_bu,d_a,d_b,hsa,hsb,q1,t2,k2,gz,b9,show(true==false)=false by rfl]
     · rw[decide_eq_false c] at k2
       obtain⟨e1,e2⟩:=hR.2 c;rw[e1];unfold inI at e2;simp(disch:=first|exact y7|fail) only[go_sem,X_bu,c_bu,d_a,d_b,hsa,hsb,q1,t2,k2,gz,b9,show(true==false)=false by rfl]
   · have hR:=hR.2 (by simp[p_a,p_b])
     by_cases c:b.natAbs>Q2
     · rw[decide_eq_true c] at k2
       rw[hR.1 c];simp(disch:=first|exact y7|fail) only[go_sem,X_bu,c_bu,d_a,d_b,hsa,hsb,q1,t2,k2,gz,b9,show(false==true)=false by rfl]
     · rw[decide_eq_false c] at k2
       obtain⟨e1,e2⟩:=hR.2 c;rw[e1];unfold inI at e2;simp(disch:=first|exact y7|fail) only[go_sem,X_bu,c_bu,d_a,d_b,hsa,hsb,q1,t2,k2,gz,b9,show(false==true)=false by rfl]
   · have hR:=hR.1 (by simp[p_a,p_b])
     by_cases c:b.natAbs>Q1
     · rw[decide_eq_true c] at k1
       rw[hR.1 c];simp(disch:=first|exact y7|fail) only[go_sem,X_bu,c_bu,d_a,d_b,hsa,hsb,q1,t1,k1,gz,b9]
     · rw[decide_eq_false c] at k1
       obtain⟨e1,e2⟩:=hR.2 c;rw[e1];unfold inI at e2;simp(disch:=first|exact y7|fail) only[go_sem,X_bu,c_bu,d_a,d_b,hsa,hsb,q1,t1,k1,gz,b9]
