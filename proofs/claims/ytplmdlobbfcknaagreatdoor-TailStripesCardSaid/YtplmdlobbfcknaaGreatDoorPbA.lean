import Derived.Test.YtplmdlobbfcknaaGreatDoorCode
import Derived.Test.YtplmdlobbfcknaaGreatDoorL8
import Derived.Test.YtplmdlobbfcknaaGreatDoorL9
namespace Go.Proofs.YtplmdlobbfcknaaGreatDoor
open Go.Ev Go
theorem k8:evL cfg n_cd 0 [] []=some (.d (.bool (true)),[]):=by
 refine ap (n:=1) ?_;have hx:cfg.ext n_cd=some xd:=rfl;simp only[evFn,hx,allD,Option.map_some,Option.bind_some,xd]
theorem ad6 (s:List UInt8) (i e:Int):evL cfg n_cg 0 [.d (.str s),.d (.int .i64 (i)),.d (.int .i64 (e))] []=some (.d (fltD s i e),[]):=by
 refine ap (n:=1) ?_;have hx:cfg.ext n_cg=some xe:=rfl;simp only[evFn,hx,allD,Option.map_some,Option.bind_some,xe]
theorem xm (s:List UInt8) (i:Int) (h:toldB s i=true):evL cfg n_bx 0 [.d (fltD s i 2),.d (.sl [prtD s i]),.d (.int .i64 (2))] []=some (.d (.bool (true)),[]):=by
 refine ap (n:=1) ?_;have hx:cfg.ext n_bx=some xc:=rfl;simp only[evFn,hx,allD,Option.map_some,Option.bind_some,xc,fltD,prtD];simp only[h,and_self,if_true,Option.map_some]
set_option maxHeartbeats 2000000
theorem du (b:List UInt8) (hl:b.length≤1000000):evL cfg n_az 0 [.d (.sl ((b).map byteD))] []=some ((if b.isEmpty then .d .nilS else .own false 1 (b.map byteD)),[]):=by
 cases b with
 |nil=>exact ap (n:=3) yk
 | cons c b=>
  rw[o_az];rw[List.length_cons] at hl;simp(disch:=first|exact yi|fail) only[go_sem,X_az,c_az,List.isEmpty]
theorem fj:∀ (k u:Nat) (es:List UInt8),u<128 ^ (k+1)→u<18446744073709551616→es.length+k+1≤10000000→
  go X_aw [.c (.loop a1s),.b 0,.c (.seq at2 .ret)] ⟨[(0,.own false 1 (es.map byteD)),(1,.d (.int .u64 ((u:Int))))],[]⟩=some (.own false 1 ((es++varB (k+1) u).map byteD),[])
 | k,u,es,h,h',hl=>by
  by_cases c:u<128
  · have d_a:decide ((u:Int)≥128)=false:=by simp<;>omega
    have e:varB (k+1) u=[UInt8.ofNat u]:=by simp[varB,c]
    have e1:=nf (n:=u) yj;have e2:u % 256=u:=yj;rw[go_loop,e];simp(disch:=first|exact yi|fail) only[go_sem,X_aw,d_a,cv_u8,List.map_append,e1,e2]
  · have d_a:decide ((u:Int)≥128)=true:=by simp<;>omega
    cases k with
    |zero=>simp at h;omega
    | succ k=>
     have e:varB (k+1+1) u=UInt8.ofNat (u % 128+128)::varB (k+1) (u / 128):=by rw[varB,if_neg c]
     have e1:=nf (n:=u % 128+128) yj;have ih:=fj k (u / 128) (es++[UInt8.ofNat (u % 128+128)]) (by rw[Nat.pow_succ] at h;omega) yj (by simp;omega)
     rw[List.map_append,List.map_cons,List.map_nil,e1,zm,List.singleton_append,← e] at ih;have e3:=azh h';rw[go_loop];simp(disch:=first|exact yi|fail) only[go_sem,X_aw,d_a,e3,gm,yb]
     exact ih
theorem bw {b:List UInt8} {u:Nat} (hb:b.length≤1000000) (hu:u<18446744073709551616):evL cfg n_aw 0 [.own false 1 (b.map byteD),.d (.int .u64 ((u:Int)))] []=some (.own false 1 ((b++varB 10 u).map byteD),[]):=by
 rw[show evL cfg n_aw 0 [.own false 1 (b.map byteD),.d (.int .u64 ((u:Int)))] []=go X_aw [.c c_aw] ⟨[(0,.own false 1 (b.map byteD)),(1,.d (.int .u64 ((u:Int))))],[]⟩ from au (fn:=i_aw) rfl rfl _ _ _ rfl rfl]
 have hl:=fj 9 u b yj hu yj;simp(disch:=first|exact yi|fail) only[go_sem,X_aw,c_aw,hl]
theorem jz {u:Nat} (hu:u<18446744073709551616):evL cfg n_aw 0 [.d .nilS,.d (.int .u64 ((u:Int)))] []=some (.own false 1 ((varB 10 u).map byteD),[]):=by
 rw[o_aw];by_cases c:u<128
 · have d_a:decide ((u:Int)≥128)=false:=by simp<;>omega
   have e:varB 10 u=[UInt8.ofNat u]:=by simp[varB,c]
   have e1:=nf (n:=u) yj;have e2:u % 256=u:=yj;simp(disch:=first|exact yi|fail) only[go_sem,X_aw,c_aw,go_loop,d_a,cv_u8,e,e1,e2]
 · have d_a:decide ((u:Int)≥128)=true:=by simp<;>omega
   have e:varB 10 u=UInt8.ofNat (u % 128+128)::varB 9 (u / 128):=by rw[varB,if_neg c]
   have e1:=nf (n:=u % 128+128) yj;have ih:=fj 8 (u / 128) [UInt8.ofNat (u % 128+128)] yj yj yl;rw[List.map_cons,List.map_nil,e1,List.singleton_append,← e] at ih;have e3:=azh hu;simp(disch:=first|exact yi|fail) only[go_sem,X_aw,c_aw]
   rw[go_loop];simp(disch:=first|exact yi|fail) only[go_sem,X_aw,d_a,e3,gm,yb]
   exact ih
def varD (m:Nat×Nat×Nat):V:= .d (.tup [.int .u64 (m.1:Int),.int .i64 (m.2.1:Int),.int .i64 (m.2.2:Int)])
theorem mr:∀ (r:List UInt8) (l:List UInt8) (i v:Nat),l.drop i=r→i≤9→v<128 ^ i→l.length≤1000000000→i≤l.length→
  go X_a9 [.c (.loop ail),.b 0,.c (.seq ahc .ret)] ⟨[(4,.d (.int .u64 ((v:Int)))),(19,.d (.sl ((l).map byteD))),(20,.d (.int .i64 ((l.length:Int)))),(21,.d (.int .i64 ((i:Int))))],[]⟩=some (varD (varM i v r),[])
 | [],l,i,v,hr,hi,hv,hl,hil=>by
  have:l.length≤i:=by simpa using hr
  have d_a:decide ((i:Int)<l.length)=false:=by simp<;>omega
  rw[go_loop];simp(disch:=first|exact yi|fail) only[go_sem,X_a9,d_a]
  rfl
 | c::r,l,i,v,hr,hi,hv,hl,hil=>by
  have hlt:i<l.length:=by
    apply Classical.byContradiction;intro h;rw[List.drop_of_length_le yj] at hr;cases hr
  have hc:l[i]? =some c:=by
    have:=congrArg (·[0]?) hr
    simpa using this
  have hr':l.drop (i+1)=r:=by rw[← List.drop_drop,hr];rfl
  have h256:=u8_lt c;have d_a:decide ((i:Int)<l.length)=true:=by simp<;>omega
  rw[go_loop];unfold varM;have ea:=aqg c;by_cases h9:i=9
  · have d9:((i:Int)==9)=true:=by simp;omega
    by_cases h1:1<c.toNat
    · have d_b:decide ((c.toNat:Int)>1)=true:=by simp<;>omega
      rw[if_pos ⟨h9,h1⟩];simp(disch:=first|exact yi|fail) only[go_sem,X_a9,d_a,hc,jo,d9,d_b]
      rfl
    · have d_b:decide ((c.toNat:Int)>1)=false:=by simp<;>omega
      have d_d:decide ((c.toNat:Int)<128)=true:=by simp<;>omega
      have eb:=air (v:=v) (x:=c.toNat % 128) (i:=i) hv (.inr ⟨h9,by omega⟩)
      rw[if_neg yj,if_pos yj];rw[show c.toNat % 128=c.toNat by omega] at ea eb
      simp(disch:=first|exact yi|fail) only[go_sem,X_a9,d_a,hc,jo,d9,d_b,d_d,ea,pi,eb,a06,show c.toNat % 18446744073709551616=c.toNat by omega]
      unfold varD
      first|done|with_reducible rfl| (simp only[Option.some.injEq,Prod.mk.injEq,V.d.injEq,D.int.injEq,D.tup.injEq,D.bool.injEq,List.cons.injEq,and_true,true_and];omega)
  · have eb:=air (v:=v) (x:=c.toNat % 128) (i:=i) hv (.inl ⟨by omega,by omega⟩)
    have d9:((i:Int)==9)=false:=by simp;omega
    rw[if_neg yj];by_cases h2:c.toNat<128
    · have d_d:decide ((c.toNat:Int)<128)=true:=by simp<;>omega
      rw[if_pos h2];rw[show c.toNat % 128=c.toNat by omega] at ea eb
      simp(disch:=first|exact yi|fail) only[go_sem,X_a9,d_a,hc,jo,d9,d_d,ea,pi,eb,a06,show c.toNat % 18446744073709551616=c.toNat by omega]
      unfold varD
      first|done|with_reducible rfl| (simp only[Option.some.injEq,Prod.mk.injEq,V.d.injEq,D.int.injEq,D.tup.injEq,D.bool.injEq,List.cons.injEq,and_true,true_and];omega)
    · have d_d:decide ((c.toNat:Int)<128)=false:=by simp<;>omega
      rw[if_neg h2];have hp:v+(c.toNat-128)*128 ^ i<128 ^ (i+1):=by
       have:(c.toNat-128)*128 ^ i≤127*128 ^ i:=za _ yj;rw[Nat.pow_succ];omega
      have ih:=mr r l (i+1) (v+(c.toNat-128)*128 ^ i) hr' yj hp hl yj;rw[show(((i+1:Nat)):Int)=(i:Int)+1 by omega,← show c.toNat % 128=c.toNat-128 by omega] at ih
      rw[← show c.toNat % 128=c.toNat-128 by omega]
      simp(disch:=first|exact yi|fail) only[go_sem,X_a9,d_a,hc,jo,d9,d_d,ea,pi,eb,a06,show c.toNat % 128 % 18446744073709551616=c.toNat % 128 by omega]
      exact ih
set_option maxHeartbeats 4000000
theorem tkm (b:List UInt8):List.take b.length (b.map byteD)=b.map byteD:=List.take_of_length_le yl
theorem drm (b:List UInt8) (p:Nat):List.drop p (b.map byteD)=(b.drop p).map byteD:=List.map_drop.symm
theorem pf {b:List UInt8} {p:Nat} (hp:p≤b.length) (hl:b.length≤1000000):evL cfg n_a9 0 [.d (.sl ((b).map byteD)),.d (.int .i64 ((p:Int)))] []=some (varD (varM 0 0 (b.drop p)),[]):=by
 rw[o_a9];have d_a:decide ((p:Int)<0)=false:=by simp<;>omega
 have d_c:decide ((p:Int)>b.length)=false:=by simp<;>omega
 have h:=mr (b.drop p) (b.drop p) 0 0 yl yj yl (by simp;omega) yj
 simp(disch:=first|exact yi|fail) only[go_sem,X_a9,c_a9,d_a,d_c,tkm,drm,y9]
 exact h
theorem and7 (k:Nat) (h:k<18446744073709551616):andI .u64 (k:Int) 7=((k % 8:Nat):Int):=by
 have:=andU (k:= .u64) rfl (a:=k) (b:=7) h;rw[show((7:Nat):Int)=7 from rfl] at this
 rw[this,show(7:Nat)=2 ^ 3-1 from rfl,aqb]
theorem shr3 (k:Nat):shrI .u64 (k:Int) 3=((k / 8:Nat):Int):=by
 have:=shrU .u64 k (n:=3) ym;rw[show((3:Nat):Int)=3 from rfl] at this
 rw[this]
def pm (r:Fld×Nat×Nat):V:= .d (.tup [r.1.d,.int .i64 (r.2.1:Int),.int .i64 (r.2.2:Int)])
structure Key (l:List UInt8) (p:Nat) (k:Nat×Nat×Nat):Prop where
 lt:k.1<18446744073709551616
 pos:1≤k.2.1
 fit:p+k.2.1≤l.length
 few:k.2.1≤10
theorem key_of {l:List UInt8} {p:Nat} (h:(varM 0 0 (l.drop p)).2.2=0) (hp:p≤l.length):Key l p (varM 0 0 (l.drop p)):=by
 obtain⟨h1,h2,h3,h4⟩:=vt h hp;exact⟨h1,h2,h3,h4⟩
theorem err_le (l:List UInt8) (p:Nat):(varM 0 0 (l.drop p)).2.2≤4:=(ae5 (l.drop p) 0 0 yj yl).2.2.2.1
theorem shl8 {u c i:Nat} (hu:u<256 ^ i) (hc:c<256) (hi:i≤7):orI .u64 (u:Int) (shlI .u64 (c:Int) (8*(i:Int)))=((u+c*256 ^ i:Nat):Int):=by
 have e0:(256:Nat) ^ i=2 ^ (8*i):=by rw[Nat.pow_mul]
 have hu':u<2 ^ (8*i):=by rw[← e0];exact hu
 have h1:=shlU (k:= .u64) rfl c (n:=8*i) (by show 8*i≤64;omega)
 rw[show(((8*i:Nat)):Int)=8*(i:Int) by omega] at h1
 have h3:c*2 ^ (8*i)<2 ^ 64:=by
  have:c*2 ^ (8*i)<2 ^ 8*2 ^ (8*i):=Nat.mul_lt_mul_of_lt_of_le hc (yt _) (Nat.two_pow_pos _);rw[← Nat.pow_add] at this;exact y8 this (aaq yj yj)
 rw[h1,show(2:Nat) ^ IntKind.u64.bits=2 ^ 64 from rfl,aaf h3]
 rw[orU (k:= .u64) rfl (a:=u) (b:=c*2 ^ (8*i)) (by show u<2 ^ 64;exact y8 hu' (aaq yj yj)) (by show _<2 ^ 64;exact h3),apg hu',e0]
theorem azk {l:List UInt8} {a b:Int} (i k:Nat) (ha:a=i) (hb:b=i+k):List.drop a.toNat (List.take b.toNat (l.map byteD))=((l.drop i).take k).map byteD:=by
 subst ha;subst hb;rw[show((i:Int)).toNat=i by omega,show((i:Int)+k).toNat=i+k by omega,← List.map_take,← List.map_drop,List.drop_take,Nat.add_sub_cancel_left]
abbrev fbox (N W A:Int) (u:Nat) (b:V):List (Cel×V):=[(⟨0,4,0⟩,.d (.int .i64 (0))),(⟨0,4,1⟩,.d (.int .i64 (0))),(⟨0,4,2⟩,.d (.int .u64 (0))),(⟨0,4,3⟩,.d .nilS),(⟨0,4,4⟩,.d (.int .i64 (0))),
 (⟨0,10,0⟩,.d (.int .i64 (N))),(⟨0,10,1⟩,.d (.int .i64 (W))),(⟨0,10,2⟩,.d (.int .u64 ((u:Int)))),(⟨0,10,3⟩,b),(⟨0,10,4⟩,.d (.int .i64 (A)))]
theorem jj (N W A n z:Int):∀ (r q:List UInt8) (i u:Nat),q.drop i=r→q.length≤8→u<256 ^ i→i≤q.length→ -1000000≤n∧n≤1000000∧0≤z∧z≤8→
  go X_af [.c (.loop aie),.b 5,.c (.seq af2 .ret)] ⟨[(4,.ref 0 4 0),(8,.d (.int .i64 (n))),(10,.ref 0 10 0),(11,.d (.int .i64 (z))),(130,.d (.sl ((q).map byteD))),(131,.d (.int .i64 ((q.length:Int)))),(132,.d (.int .i64 ((i:Int))))],fbox N W A u (.d .nilS)⟩=
   some (.d (.tup [.agg [.int .i64 N,.int .i64 W,.int .u64 ((u+leN r*256 ^ i:Nat):Int),.sl [],.int .i64 A],.int .i64 (n+z),.int .i64 0]),[])
 | [],q,i,u,hr,hq,hu,hi,hn=>by
  have:=iw hr;have d_a:decide ((i:Int)<q.length)=false:=by simp<;>omega
  rw[go_loop];simp(disch:=first|exact yi|fail) only[go_sem,X_af,d_a,leN,Nat.zero_mul,Nat.add_zero]
 | c::r,q,i,u,hr,hq,hu,hi,hn=>by
  obtain⟨h1,h2,h3⟩:=ll hr;have d_a:decide ((i:Int)<q.length)=true:=by simp<;>omega
  have h256:=u8_lt c;have es:=shl8 (c:=c.toNat) hu h256 yj;have ih:=jj N W A n z r q (i+1) (u+c.toNat*256 ^ i) h3 hq (by
   rw[Nat.pow_succ];have:c.toNat*256 ^ i≤255*256 ^ i:=za _ yj;omega) yj hn
  rw[show(((i+1:Nat)):Int)=(i:Int)+1 by omega] at ih
  have ee:u+c.toNat*256 ^ i+leN r*256 ^ (i+1)=u+leN (c::r)*256 ^ i:=by
   simp only[leN];rw[Nat.pow_succ,zh,Nat.mul_assoc 256,Nat.mul_comm 256,Nat.mul_assoc];omega
  rw[ee] at ih;rw[go_loop];simp(disch:=first|exact yi|fail) only[go_sem,X_af,d_a,h2,jo,es,pi]
  exact ih
theorem adg {l:List UInt8} {p:Nat} (hp:p≤l.length) (hl:l.length≤262144):evL cfg n_af 0 [.d (.sl ((l).map byteD)),.d (.int .i64 ((p:Int)))] []=some (pm (fieldM l p),[]):=by
 rw[o_af];have hv:=pf hp yj;unfold fieldM;simp only;by_cases he:(varM 0 0 (l.drop p)).2.2≠0
 · rw[if_pos he]
   generalize varM 0 0 (l.drop p)=k at *;obtain⟨k1,n,e⟩:=k;simp only at he ⊢;have d1:((e:Int) !=0)=true:=by simp;omega
   unfold varD at hv;simp(disch:=first|exact yi|fail) only[go_sem,X_af,c_af,hv,d1]
   rfl
 rw[if_neg he];have he:=Decidable.not_not.1 he;have hk:=key_of he hp;generalize hkk:varM 0 0 (l.drop p)=k at *;obtain⟨k1,n,e⟩:=k;simp only at he ⊢;subst he;obtain⟨hlt,hpos,hfit,hfew⟩:=hk;simp only at hlt hpos hfit hfew;unfold varD at hv;simp only at hv;have e7:=and7 k1 hlt;have e3:=shr3 k1;by_cases hq:k1 / 8<1∨k1 / 8>536870911
 · rw[if_pos hq]
   rcases hq with hq|hq
   · have d_a:decide (((k1 / 8:Nat):Int)<1)=true:=by simp<;>omega
     simp(disch:=first|exact yi|fail) only[go_sem,X_af,c_af,hv,e7,gm,e3,d_a]
     rfl
   · have d_a:decide (((k1 / 8:Nat):Int)<1)=false:=by simp<;>omega
     have d_b:decide (((k1 / 8:Nat):Int)>536870911)=true:=by simp<;>omega
     simp(disch:=first|exact yi|fail) only[go_sem,X_af,c_af,hv,e7,gm,e3,d_a,d_b]
     rfl
 rw[if_neg hq];rw[not_or] at hq;have d_a:decide (((k1 / 8:Nat):Int)<1)=false:=by simp<;>omega
 have d_b:decide (((k1 / 8:Nat):Int)>536870911)=false:=by simp<;>omega
 have hv2:=pf (b:=l) (p:=p+n) hfit yj;rw[show((p+n:Nat):Int)=(p:Int)+n by omega] at hv2
 have he2:=err_le l (p+n);have hk2:=fun h=>key_of (l:=l) (p:=p+n) h hfit
 by_cases w0:k1 % 8=0
 · rw[if_pos w0]
   generalize varM 0 0 (l.drop (p+n))=v at *;obtain⟨v1,m,e⟩:=v;unfold varD at hv2;simp only at hv2 he2 hk2 ⊢;have dw0:(((k1 % 8:Nat):Int)==0)=true:=by simp;omega
   by_cases hz:e≠0
   · rw[if_pos hz]
     have d1:((e:Int) !=0)=true:=by simp;omega
     simp(disch:=first|exact yi|fail) only[go_sem,X_af,c_af,hv,e7,gm,e3,d_a,d_b,dw0,hv2,d1]
     rfl
   · have hz:=Decidable.not_not.1 hz
     subst hz;obtain⟨hlt2,hpos2,hfit2,hfew2⟩:=hk2 rfl;simp only at hlt2 hpos2 hfit2 hfew2;simp(disch:=first|exact yi|fail) only[go_sem,X_af,c_af,hv,e7,gm,e3,d_a,d_b,dw0,hv2]
     rw[w0];simp only[if_true,zy,if_false];unfold pm Fld.d;simp only[Int.natCast_add,List.map_nil];rfl
 rw[if_neg w0];have dw0:(((k1 % 8:Nat):Int)==0)=false:=by simp;omega
 by_cases w2:k1 % 8=2
 · rw[if_pos w2]
   have dw2:(((k1 % 8:Nat):Int)==2)=true:=by simp;omega
   generalize varM 0 0 (l.drop (p+n))=v at *;obtain⟨v1,m,e⟩:=v;unfold varD at hv2;simp only at hv2 he2 hk2 ⊢;by_cases hz:e≠0
   · rw[if_pos hz]
     have d1:((e:Int) !=0)=true:=by simp;omega
     simp(disch:=first|exact yi|fail) only[go_sem,X_af,c_af,hv,e7,gm,e3,d_a,d_b,dw0,dw2,hv2,d1]
     rfl
   · have hz:=Decidable.not_not.1 hz
     subst hz;obtain⟨hlt2,hpos2,hfit2,hfew2⟩:=hk2 rfl;simp only at hlt2 hpos2 hfit2 hfew2;rw[if_neg yl];by_cases hbig:v1>l.length-p-(n+m)
     · have d_c:decide ((v1:Int)>(l.length:Int)-p-(n+m))=true:=by simp<;>omega
       rw[if_pos hbig];simp(disch:=first|exact yi|fail) only[go_sem,X_af,c_af,hv,e7,gm,e3,d_a,d_b,dw0,dw2,hv2,d_c]
       rfl
     · have d_c:decide ((v1:Int)>(l.length:Int)-p-(n+m))=false:=by simp<;>omega
       rw[if_neg hbig];have hcl:=du ((l.drop (p+(n+m))).take v1) (by simp;omega)
       have ep:=azk (l:=l) (a:=(p:Int)+(n+m)) (b:=(p:Int)+(n+m)+v1) (p+(n+m)) v1 yj yj;have hle:((l.drop (p+(n+m))).take v1).length≤262144:=by simp;omega
       generalize(l.drop (p+(n+m))).take v1=q at *;cases q with
       | nil=>
        simp only[List.isEmpty_nil,if_true,List.map_nil] at hcl ep;simp(disch:=first|exact yi|fail) only[go_sem,X_af,c_af,hv,e7,gm,e3,d_a,d_b,dw0,dw2,hv2,d_c,ep,hcl]
        rw[w2];unfold pm Fld.d;simp only[Int.natCast_add,List.map_nil,Int.add_assoc];rfl
       | cons x q=>
        simp only[List.isEmpty_cons,yz,if_false,List.map_cons] at hcl ep;simp(disch:=first|exact yi|fail) only[go_sem,X_af,c_af,hv,e7,gm,e3,d_a,d_b,dw0,dw2,hv2,d_c,ep,hcl]
        rw[w2];unfold pm Fld.d;simp only[Int.natCast_add,Int.add_assoc];rfl
 rw[if_neg w2];have dw2:(((k1 % 8:Nat):Int)==2)=false:=by simp;omega
 by_cases w1:k1 % 8=1
 · rw[if_pos w1]
   have dw1:(((k1 % 8:Nat):Int)==1)=true:=by simp;omega
   by_cases hs:8>l.length-p-n
   · have d_c:decide ((8:Int)>(l.length:Int)-p-n)=true:=by simp<;>omega
     rw[if_pos hs];simp(disch:=first|exact yi|fail) only[go_sem,X_af,c_af,hv,e7,gm,e3,d_a,d_b,dw0,dw2,dw1,d_c]
     rfl
   · have d_c:decide ((8:Int)>(l.length:Int)-p-n)=false:=by simp<;>omega
     rw[if_neg hs];have ep:=azk (l:=l) (a:=(p:Int)+n) (b:=(p:Int)+n+8) (p+n) 8 yj yj;have hlq:((l.drop (p+n)).take 8).length=8:=by simp;omega
     have hloop:=jj ((k1 / 8:Nat):Int) ((k1 % 8:Nat):Int) p n 8 ((l.drop (p+n)).take 8) ((l.drop (p+n)).take 8) 0 0 yl yj yl yj yj;generalize(l.drop (p+n)).take 8=q at *;rw[hlq] at hloop;simp(disch:=first|exact yi|fail) only[go_sem,X_af,c_af,hv,e7,gm,e3,d_a,d_b,dw0,dw2,dw1,d_c,ep,y9,hlq]
     refine hloop.trans ?_;rw[w1];unfold pm Fld.d;simp only[Int.natCast_add,List.map_nil,Nat.zero_add,Nat.pow_zero,Nat.mul_one];rfl
 rw[if_neg w1];have dw1:(((k1 % 8:Nat):Int)==1)=false:=by simp;omega
 by_cases w5:k1 % 8=5
 · rw[if_pos w5]
   have dw5:(((k1 % 8:Nat):Int)==5)=true:=by simp;omega
   by_cases hs:4>l.length-p-n
   · have d_c:decide ((4:Int)>(l.length:Int)-p-n)=true:=by simp<;>omega
     rw[if_pos hs];simp(disch:=first|exact yi|fail) only[go_sem,X_af,c_af,hv,e7,gm,e3,d_a,d_b,dw0,dw2,dw1,dw5,d_c]
     rfl
   · have d_c:decide ((4:Int)>(l.length:Int)-p-n)=false:=by simp<;>omega
     rw[if_neg hs];have ep:=azk (l:=l) (a:=(p:Int)+n) (b:=(p:Int)+n+4) (p+n) 4 yj yj;have hlq:((l.drop (p+n)).take 4).length=4:=by simp;omega
     have hloop:=jj ((k1 / 8:Nat):Int) ((k1 % 8:Nat):Int) p n 4 ((l.drop (p+n)).take 4) ((l.drop (p+n)).take 4) 0 0 yl yj yl yj yj;generalize(l.drop (p+n)).take 4=q at *;rw[hlq] at hloop;simp(disch:=first|exact yi|fail) only[go_sem,X_af,c_af,hv,e7,gm,e3,d_a,d_b,dw0,dw2,dw1,dw5,d_c,ep,y9,hlq]
     refine hloop.trans ?_;rw[w5];unfold pm Fld.d;simp only[Int.natCast_add,List.map_nil,Nat.zero_add,Nat.pow_zero,Nat.mul_one];rfl
 rw[if_neg w5];have dw5:(((k1 % 8:Nat):Int)==5)=false:=by simp;omega
 simp(disch:=first|exact yi|fail) only[go_sem,X_af,c_af,hv,e7,gm,e3,d_a,d_b,dw0,dw2,dw1,dw5]
 rfl
