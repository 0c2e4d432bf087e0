import Derived.Test.YtpnhljhciibfnaaGreatDoorNuA
import Derived.Test.YtpnhljhciibfnaaGreatDoorL10
namespace Go.Proofs.YtpnhljhciibfnaaGreatDoor
open Go Go.Ev
set_option maxHeartbeats 4000000
theorem tkm (b:List UInt8):List.take b.length (b.map AM)=b.map AM:=List.take_of_length_le aa3
theorem drm (b:List UInt8) (p:Nat):List.drop p (b.map AM)=(b.drop p).map AM:=List.map_drop.symm
theorem mg {b:List UInt8} {p:Nat} (hp:p≤b.length) (hl:b.length≤1000000):evL cfg H5 0 [.d (.sl ((b).map AM)),.d (.int .i64 ((p:Int)))] []=some (DX (Ay 0 0 (b.drop p)),[]):=by
 rw[o_ce];have d_a:decide ((p:Int)<0)=false:=by simp<;>omega
 have d_c:decide ((p:Int)>b.length)=false:=by simp<;>omega
 have h:=pm (b.drop p) (b.drop p) 0 0 aa3 aa1 aa3 (by simp;omega) aa1
 simp(disch:=first|exact aa0|fail) only[go_sem,Ij,aM,d_a,d_c,tkm,drm,abl]
 exact h
theorem l9 {b:List UInt8} {p:Nat} (hp:p≤b.length) (hl:b.length≤1000000):evL cfg HY 0 [.d (.sl ((b).map AM)),.d (.int .i64 ((p:Int)))] []=some (DX (Ay 0 0 (b.drop p)),[]):=by
 rw[o_ay];have d_a:decide ((p:Int)<0)=false:=by simp<;>omega
 have d_c:decide ((p:Int)>b.length)=false:=by simp<;>omega
 have h:=pf (b.drop p) b p 0 0 aa3 aa1 aa3 aa1 aa1;simp(disch:=first|exact aa0|fail) only[go_sem,Im,aY,d_a,d_c]
 exact h
theorem and7 (k:Nat) (h:k<18446744073709551616):G5 .u64 (k:Int) 7=((k % 8:Nat):Int):=by
 have:=oD (k:= .u64) rfl (a:=k) (b:=7) h;rw[show((7:Nat):Int)=7 from rfl] at this
 rw[this,show(7:Nat)=2 ^ 3-1 from rfl,bfq]
theorem shr3 (k:Nat):GI .u64 (k:Int) 3=((k / 8:Nat):Int):=by
 have:=eG .u64 k (n:=3) aa4;rw[show((3:Nat):Int)=3 from rfl] at this
 rw[this]
def r9 (r:Fld×Nat×Nat):V:= .d (.tup [r.1.d,.int .i64 (r.2.1:Int),.int .i64 (r.2.2:Int)])
structure Key (l:List UInt8) (p:Nat) (k:Nat×Nat×Nat):Prop where
 lt:k.1<18446744073709551616
 pos:1≤k.2.1
 fit:p+k.2.1≤l.length
 few:k.2.1≤10
theorem bev {l:List UInt8} {p:Nat} (h:(Ay 0 0 (l.drop p)).2.2=0) (hp:p≤l.length):Key l p (Ay 0 0 (l.drop p)):=by
 obtain⟨h1,h2,h3,h4⟩:=x7 h hp;exact⟨h1,h2,h3,h4⟩
theorem Wy (l:List UInt8) (p:Nat):(Ay 0 0 (l.drop p)).2.2≤4:=(s9 (l.drop p) 0 0 aa1 aa3).2.2.2.1
theorem shl8 {u c i:Nat} (hu:u<256 ^ i) (hc:c<256) (hi:i≤7):orI .u64 (u:Int) (GJ .u64 (c:Int) (8*(i:Int)))=((u+c*256 ^ i:Nat):Int):=by
 have e0:(256:Nat) ^ i=2 ^ (8*i):=by rw[Nat.pow_mul]
 have hu':u<2 ^ (8*i):=by rw[← e0];exact hu
 have h1:=Hu (k:= .u64) rfl c (n:=8*i) (by show 8*i≤64;omega)
 rw[show(((8*i:Nat)):Int)=8*(i:Int) by omega] at h1
 have h3:c*2 ^ (8*i)<2 ^ 64:=by
  have:c*2 ^ (8*i)<2 ^ 8*2 ^ (8*i):=Nat.mul_lt_mul_of_lt_of_le hc (abn _) (Nat.two_pow_pos _);rw[← Nat.pow_add] at this;exact ab3 this (acw aa1 aa1)
 rw[h1,show(2:Nat) ^ IntKind.u64.bits=2 ^ 64 from rfl,acv h3]
 rw[orU (k:= .u64) rfl (a:=u) (b:=c*2 ^ (8*i)) (by show u<2 ^ 64;exact ab3 hu' (acw aa1 aa1)) (by show _<2 ^ 64;exact h3),wy hu',e0]
theorem bem {l:List UInt8} {a b:Int} (i k:Nat) (ha:a=i) (hb:b=i+k):List.drop a.toNat (List.take b.toNat (l.map AM))=((l.drop i).take k).map AM:=by
 subst ha;subst hb;rw[show((i:Int)).toNat=i by omega,show((i:Int)+k).toNat=i+k by omega,← List.map_take,← List.map_drop,List.drop_take,Nat.add_sub_cancel_left]
abbrev mN (N W A:Int) (u:Nat) (b:V):List (Cel×V):=[(⟨0,4,0⟩,.d (.int .i64 (0))),(⟨0,4,1⟩,.d (.int .i64 (0))),(⟨0,4,2⟩,.d (.int .u64 (0))),(⟨0,4,3⟩,.d .AB),(⟨0,4,4⟩,.d (.int .i64 (0))),
 (⟨0,10,0⟩,.d (.int .i64 (N))),(⟨0,10,1⟩,.d (.int .i64 (W))),(⟨0,10,2⟩,.d (.int .u64 ((u:Int)))),(⟨0,10,3⟩,b),(⟨0,10,4⟩,.d (.int .i64 (A)))]
theorem kg (N W A n z:Int):∀ (r q:List UInt8) (i u:Nat),q.drop i=r→q.length≤8→u<256 ^ i→i≤q.length→ -1000000≤n∧n≤1000000∧0≤z∧z≤8→
  go EC [.c (.loop av4),.b 5,.c (.seq aro .ret)] ⟨[(4,.ref 0 4 0),(8,.d (.int .i64 (n))),(10,.ref 0 10 0),(11,.d (.int .i64 (z))),(130,.d (.sl ((q).map AM))),(131,.d (.int .i64 ((q.length:Int)))),(132,.d (.int .i64 ((i:Int))))],mN N W A u (.d .AB)⟩=
   some (.d (.tup [.agg [.int .i64 N,.int .i64 W,.int .u64 ((u+leN r*256 ^ i:Nat):Int),.sl [],.int .i64 A],.int .i64 (n+z),.int .i64 0]),[])
 | [],q,i,u,hr,hq,hu,hi,hn=>by
  have:=de hr;have d_a:decide ((i:Int)<q.length)=false:=by simp<;>omega
  rw[go_loop];simp(disch:=first|exact aa0|fail) only[go_sem,EC,d_a,leN,Nat.zero_mul,Nat.add_zero]
 | c::r,q,i,u,hr,hq,hu,hi,hn=>by
  obtain⟨h1,h2,h3⟩:=ej hr;have d_a:decide ((i:Int)<q.length)=true:=by simp<;>omega
  have h256:=E1 c;have es:=shl8 (c:=c.toNat) hu h256 aa1;have ih:=kg N W A n z r q (i+1) (u+c.toNat*256 ^ i) h3 hq (by
   rw[Nat.pow_succ];have:c.toNat*256 ^ i≤255*256 ^ i:=aby _ aa1;omega) aa1 hn
  rw[show(((i+1:Nat)):Int)=(i:Int)+1 by omega] at ih
  have ee:u+c.toNat*256 ^ i+leN r*256 ^ (i+1)=u+leN (c::r)*256 ^ i:=by
   simp only[leN];rw[Nat.pow_succ,ab8,Nat.mul_assoc 256,Nat.mul_comm 256,Nat.mul_assoc];omega
  rw[ee] at ih;rw[go_loop];simp(disch:=first|exact aa0|fail) only[go_sem,EC,d_a,h2,av,es,f7]
  exact ih
theorem an2 {l:List UInt8} {p:Nat} (hp:p≤l.length) (hl:l.length≤262144):evL cfg T0 0 [.d (.sl ((l).map AM)),.d (.int .i64 ((p:Int)))] []=some (r9 (b7 l p),[]):=by
 rw[o_ap];have hv:=mg hp aa1;unfold b7;simp only;by_cases he:(Ay 0 0 (l.drop p)).2.2≠0
 · rw[if_pos he]
   generalize Ay 0 0 (l.drop p)=k at *;obtain⟨k1,n,e⟩:=k;simp only at he ⊢;have d1:((e:Int) !=0)=true:=by simp;omega
   unfold DX at hv;simp(disch:=first|exact aa0|fail) only[go_sem,EC,EO,hv,d1]
   rfl
 rw[if_neg he];have he:=Decidable.not_not.1 he;have hk:=bev he hp;generalize hkk:Ay 0 0 (l.drop p)=k at *;obtain⟨k1,n,e⟩:=k;simp only at he ⊢;subst he;obtain⟨hlt,hpos,hfit,hfew⟩:=hk;simp only at hlt hpos hfit hfew;unfold DX at hv;simp only at hv;have e7:=and7 k1 hlt;have e3:=shr3 k1;by_cases hq:k1 / 8<1∨k1 / 8>536870911
 · rw[if_pos hq]
   rcases hq with hq|hq
   · have d_a:decide (((k1 / 8:Nat):Int)<1)=true:=by simp<;>omega
     simp(disch:=first|exact aa0|fail) only[go_sem,EC,EO,hv,e7,bg,e3,d_a]
     rfl
   · have d_a:decide (((k1 / 8:Nat):Int)<1)=false:=by simp<;>omega
     have d_b:decide (((k1 / 8:Nat):Int)>536870911)=true:=by simp<;>omega
     simp(disch:=first|exact aa0|fail) only[go_sem,EC,EO,hv,e7,bg,e3,d_a,d_b]
     rfl
 rw[if_neg hq];rw[not_or] at hq;have d_a:decide (((k1 / 8:Nat):Int)<1)=false:=by simp<;>omega
 have d_b:decide (((k1 / 8:Nat):Int)>536870911)=false:=by simp<;>omega
 have hv2:=mg (b:=l) (p:=p+n) hfit aa1;rw[show((p+n:Nat):Int)=(p:Int)+n by omega] at hv2
 have he2:=Wy l (p+n);have hk2:=fun h=>bev (l:=l) (p:=p+n) h hfit
 by_cases w0:k1 % 8=0
 · rw[if_pos w0]
   generalize Ay 0 0 (l.drop (p+n))=v at *;obtain⟨v1,m,e⟩:=v;unfold DX at hv2;simp only at hv2 he2 hk2 ⊢;have dw0:(((k1 % 8:Nat):Int)==0)=true:=by simp;omega
   by_cases hz:e≠0
   · rw[if_pos hz]
     have d1:((e:Int) !=0)=true:=by simp;omega
     simp(disch:=first|exact aa0|fail) only[go_sem,EC,EO,hv,e7,bg,e3,d_a,d_b,dw0,hv2,d1]
     rfl
   · have hz:=Decidable.not_not.1 hz
     subst hz;obtain⟨hlt2,hpos2,hfit2,hfew2⟩:=hk2 rfl;simp only at hlt2 hpos2 hfit2 hfew2;simp(disch:=first|exact aa0|fail) only[go_sem,EC,EO,hv,e7,bg,e3,d_a,d_b,dw0,hv2]
     rw[w0];simp only[if_true,abp,if_false];unfold r9 Fld.d;simp only[Int.natCast_add,List.map_nil];rfl
 rw[if_neg w0];have dw0:(((k1 % 8:Nat):Int)==0)=false:=by simp;omega
 by_cases w2:k1 % 8=2
 · rw[if_pos w2]
   have dw2:(((k1 % 8:Nat):Int)==2)=true:=by simp;omega
   generalize Ay 0 0 (l.drop (p+n))=v at *;obtain⟨v1,m,e⟩:=v;unfold DX at hv2;simp only at hv2 he2 hk2 ⊢;by_cases hz:e≠0
   · rw[if_pos hz]
     have d1:((e:Int) !=0)=true:=by simp;omega
     simp(disch:=first|exact aa0|fail) only[go_sem,EC,EO,hv,e7,bg,e3,d_a,d_b,dw0,dw2,hv2,d1]
     rfl
   · have hz:=Decidable.not_not.1 hz
     subst hz;obtain⟨hlt2,hpos2,hfit2,hfew2⟩:=hk2 rfl;simp only at hlt2 hpos2 hfit2 hfew2;rw[if_neg aa3];by_cases hbig:v1>l.length-p-(n+m)
     · have d_c:decide ((v1:Int)>(l.length:Int)-p-(n+m))=true:=by simp<;>omega
       rw[if_pos hbig];simp(disch:=first|exact aa0|fail) only[go_sem,EC,EO,hv,e7,bg,e3,d_a,d_b,dw0,dw2,hv2,d_c]
       rfl
     · have d_c:decide ((v1:Int)>(l.length:Int)-p-(n+m))=false:=by simp<;>omega
       rw[if_neg hbig];have hcl:=jg ((l.drop (p+(n+m))).take v1) (by simp;omega)
       have ep:=bem (l:=l) (a:=(p:Int)+(n+m)) (b:=(p:Int)+(n+m)+v1) (p+(n+m)) v1 aa1 aa1;have hle:((l.drop (p+(n+m))).take v1).length≤262144:=by simp;omega
       generalize(l.drop (p+(n+m))).take v1=q at *;cases q with
       | nil=>
        simp only[List.isEmpty_nil,if_true,List.map_nil] at hcl ep;simp(disch:=first|exact aa0|fail) only[go_sem,EC,EO,hv,e7,bg,e3,d_a,d_b,dw0,dw2,hv2,d_c,ep,hcl]
        rw[w2];unfold r9 Fld.d;simp only[Int.natCast_add,List.map_nil,Int.add_assoc];rfl
       | cons x q=>
        simp only[List.isEmpty_cons,aa8,if_false,List.map_cons] at hcl ep;simp(disch:=first|exact aa0|fail) only[go_sem,EC,EO,hv,e7,bg,e3,d_a,d_b,dw0,dw2,hv2,d_c,ep,hcl]
        rw[w2];unfold r9 Fld.d;simp only[Int.natCast_add,Int.add_assoc];rfl
 rw[if_neg w2];have dw2:(((k1 % 8:Nat):Int)==2)=false:=by simp;omega
 by_cases w1:k1 % 8=1
 · rw[if_pos w1]
   have dw1:(((k1 % 8:Nat):Int)==1)=true:=by simp;omega
   by_cases hs:8>l.length-p-n
   · have d_c:decide ((8:Int)>(l.length:Int)-p-n)=true:=by simp<;>omega
     rw[if_pos hs];simp(disch:=first|exact aa0|fail) only[go_sem,EC,EO,hv,e7,bg,e3,d_a,d_b,dw0,dw2,dw1,d_c]
     rfl
   · have d_c:decide ((8:Int)>(l.length:Int)-p-n)=false:=by simp<;>omega
     rw[if_neg hs];have ep:=bem (l:=l) (a:=(p:Int)+n) (b:=(p:Int)+n+8) (p+n) 8 aa1 aa1;have hlq:((l.drop (p+n)).take 8).length=8:=by simp;omega
     have hloop:=kg ((k1 / 8:Nat):Int) ((k1 % 8:Nat):Int) p n 8 ((l.drop (p+n)).take 8) ((l.drop (p+n)).take 8) 0 0 aa3 aa1 aa3 aa1 aa1;generalize(l.drop (p+n)).take 8=q at *;rw[hlq] at hloop;simp(disch:=first|exact aa0|fail) only[go_sem,EC,EO,hv,e7,bg,e3,d_a,d_b,dw0,dw2,dw1,d_c,ep,abl,hlq]
     refine hloop.trans ?_;rw[w1];unfold r9 Fld.d;simp only[Int.natCast_add,List.map_nil,Nat.zero_add,Nat.pow_zero,Nat.mul_one];rfl
 rw[if_neg w1];have dw1:(((k1 % 8:Nat):Int)==1)=false:=by simp;omega
 by_cases w5:k1 % 8=5
 · rw[if_pos w5]
   have dw5:(((k1 % 8:Nat):Int)==5)=true:=by simp;omega
   by_cases hs:4>l.length-p-n
   · have d_c:decide ((4:Int)>(l.length:Int)-p-n)=true:=by simp<;>omega
     rw[if_pos hs];simp(disch:=first|exact aa0|fail) only[go_sem,EC,EO,hv,e7,bg,e3,d_a,d_b,dw0,dw2,dw1,dw5,d_c]
     rfl
   · have d_c:decide ((4:Int)>(l.length:Int)-p-n)=false:=by simp<;>omega
     rw[if_neg hs];have ep:=bem (l:=l) (a:=(p:Int)+n) (b:=(p:Int)+n+4) (p+n) 4 aa1 aa1;have hlq:((l.drop (p+n)).take 4).length=4:=by simp;omega
     have hloop:=kg ((k1 / 8:Nat):Int) ((k1 % 8:Nat):Int) p n 4 ((l.drop (p+n)).take 4) ((l.drop (p+n)).take 4) 0 0 aa3 aa1 aa3 aa1 aa1;generalize(l.drop (p+n)).take 4=q at *;rw[hlq] at hloop;simp(disch:=first|exact aa0|fail) only[go_sem,EC,EO,hv,e7,bg,e3,d_a,d_b,dw0,dw2,dw1,dw5,d_c,ep,abl,hlq]
     refine hloop.trans ?_;rw[w5];unfold r9 Fld.d;simp only[Int.natCast_add,List.map_nil,Nat.zero_add,Nat.pow_zero,Nat.mul_one];rfl
 rw[if_neg w5];have dw5:(((k1 % 8:Nat):Int)==5)=false:=by simp;omega
 simp(disch:=first|exact aa0|fail) only[go_sem,EC,EO,hv,e7,bg,e3,d_a,d_b,dw0,dw2,dw1,dw5]
 rfl
