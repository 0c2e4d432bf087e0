import Derived.Test.YtlcnfnjdelmkdaaGreatDoorPbA
namespace Go.Proofs.YtlcnfnjdelmkdaaGreatDoor
open Go Go.Ev
set_option maxHeartbeats 4000000
theorem shlR {u c:Nat} (hu:u<72057594037927936) (hc:c<256):orI .u64 (shlI .u64 (u:Int) 8) (c:Int)=((c+256*u:Nat):Int):=by
 have h1:=shlU (k:= .u64) rfl u (n:=8) ze;rw[show((8:Nat):Int)=8 from rfl] at h1
 rw[h1,show(2:Nat) ^ IntKind.u64.bits=18446744073709551616 from rfl,abg y8]
 rw[orU (k:= .u64) rfl (a:=u*2 ^ 8) (b:=c) (by show u*2 ^ 8<18446744073709551616;omega) (by show c<18446744073709551616;omega)]
 rw[Nat.or_comm,amt (a:=c) (b:=u) (n:=8) y8];omega
theorem ko (l:List UInt8) (N W A:Int) (p z:Nat):∀ (i:Nat) (q:List UInt8) (u:Nat),(∀ j,j<z→l[p+j]? =q[j]?)→q.length=z→z≤8→i≤z→u=leN (q.drop i)→l.length≤262144→p+z≤l.length→
  go X_af [.c (.loop x6),.b 1,.c (.seq wv .ret)] ⟨[(0,.d (.sl ((l).map byteD))),(1,.d (.int .i64 ((p:Int)))),(4,.ref 0 4 0),(10,.ref 0 10 0),(11,.d (.int .i64 ((z:Int)))),(18,.d (.int .i64 ((i:Int)-1)))],fbox N W A u (.d .nilS)⟩=
   some (.d (.tup [.agg [.int .i64 N,.int .i64 W,.int .u64 ((leN q:Nat):Int),.sl [],.int .i64 A],.int .i64 ((p+z:Nat):Int),.int .i64 0]),[])
 | 0,q,u,hq,hz,h8,hi,hu,hl,hp=>by
  have d_a:decide ((-1:Int)≥0)=false:=rfl;rw[go_loop];simp only[List.drop_zero] at hu;subst hu;simp(disch:=first|exact y7|fail) only[go_sem,X_af,d_a,Int.natCast_add]
 | i+1,q,u,hq,hz,h8,hi,hu,hl,hp=>by
  have hlt:i<q.length:=y8;have d_a:decide (((i+1:Nat):Int)-1≥0)=true:=by simp<;>omega
  have hc:l[p+i]? =some q[i]:=by rw[hq i y8,zo hlt]
  have h256:=u8_lt q[i];have hd:leN (q.drop i)=q[i].toNat+256*u:=by rw[aa8 hlt,leN,hu]
  have hlu:u<72057594037927936:=by
   have:=beo (q.drop (i+1));rw[← hu] at this;have h2:(q.drop (i+1)).length≤7:=by simp;omega
   exact aap this (by
    have:=abc (n:=256) y8 h2;exact this)
  have es:=shlR hlu h256;have ih:=ko l N W A p z i q (q[i].toNat+256*u) hq hz h8 y8 hd.symm hl hp;have hidx:((p:Int)+((i+1:Nat)-1)).toNat=p+i:=y8;rw[go_loop];simp(disch:=first|exact y7|fail) only[go_sem,X_af,d_a,ae,hidx,hc,aw,es,iw]
  rw[show((i+1:Nat):Int)-1-1=(i:Int)-1 by omega]
  exact ih
def lr (p:Nat) (r:Fld×Nat×Nat):V:= .d (.tup [r.1.d,.int .i64 ((if r.2.2=0 then p+r.2.1 else 0:Nat):Int),.int .i64 (r.2.2:Int)])
theorem tq {l:List UInt8} {p:Nat} (hp:p≤l.length) (hl:l.length≤262144):evL cfg n_af 0 [.d (.sl ((l).map byteD)),.d (.int .i64 ((p:Int)))] []=some (lr p (b0 l p),[]):=by
 rw[o_af];have hv:=kt hp y8;unfold b0;simp only;by_cases he:(varM 0 0 (l.drop p)).2.2≠0
 · rw[if_pos he]
   generalize varM 0 0 (l.drop p)=k at *;obtain⟨k1,n,e⟩:=k;simp only at he ⊢;have d1:((e:Int) !=0)=true:=by simp;omega
   unfold varD at hv;simp(disch:=first|exact y7|fail) only[go_sem,X_af,c_af,hv,d1]
   unfold lr;rw[if_neg he];rfl
 rw[if_neg he];have he:=Decidable.not_not.1 he;have hk:=ber he hp;generalize hkk:varM 0 0 (l.drop p)=k at *;obtain⟨k1,n,e⟩:=k;simp only at he ⊢;subst he;obtain⟨hlt,hpos,hfit,hfew⟩:=hk;simp only at hlt hpos hfit hfew;unfold varD at hv;simp only at hv;have e7:=and7 k1 hlt;have e3:=shr3 k1;have wq:IntKind.i64.wrap ((k1 / 8:Nat):Int)=((k1 / 8:Nat):Int):=az y8 y8;by_cases hq:k1 / 8<1∨k1 / 8>536870911
 · rw[if_pos hq]
   rcases hq with hq|hq
   · have d_a:decide (((k1 / 8:Nat):Int)<1)=true:=by simp<;>omega
     simp(disch:=first|exact y7|fail) only[go_sem,X_af,c_af,hv,e7,bb,e3,wq,d_a]
     rfl
   · have d_a:decide (((k1 / 8:Nat):Int)<1)=false:=by simp<;>omega
     have d_b:decide (((k1 / 8:Nat):Int)>536870911)=true:=by simp<;>omega
     simp(disch:=first|exact y7|fail) only[go_sem,X_af,c_af,hv,e7,bb,e3,wq,d_a,d_b]
     rfl
 rw[if_neg hq];rw[not_or] at hq;have d_a:decide (((k1 / 8:Nat):Int)<1)=false:=by simp<;>omega
 have d_b:decide (((k1 / 8:Nat):Int)>536870911)=false:=by simp<;>omega
 have hv2:=kt (b:=l) (p:=p+n) hfit y8;rw[show((p+n:Nat):Int)=(p:Int)+n by omega] at hv2
 have he2:=err_le l (p+n);have hk2:=fun h=>ber (l:=l) (p:=p+n) h hfit
 by_cases w0:k1 % 8=0
 · rw[if_pos w0]
   generalize varM 0 0 (l.drop (p+n))=v at *;obtain⟨v1,m,e⟩:=v;unfold varD at hv2;simp only at hv2 he2 hk2 ⊢;have dw0:(((k1 % 8:Nat):Int)==0)=true:=by simp;omega
   by_cases hz:e≠0
   · rw[if_pos hz]
     have d1:((e:Int) !=0)=true:=by simp;omega
     simp(disch:=first|exact y7|fail) only[go_sem,X_af,c_af,hv,e7,bb,e3,wq,d_a,d_b,dw0,hv2,d1]
     unfold lr;rw[if_neg hz];rfl
   · have hz:=Decidable.not_not.1 hz
     subst hz;obtain⟨hlt2,hpos2,hfit2,hfew2⟩:=hk2 rfl;simp only at hlt2 hpos2 hfit2 hfew2;simp(disch:=first|exact y7|fail) only[go_sem,X_af,c_af,hv,e7,bb,e3,wq,d_a,d_b,dw0,hv2]
     rw[w0];simp only[if_true,zz,if_false];unfold lr Fld.d;simp only[if_true,Int.natCast_add,List.map_nil,Int.add_assoc];rfl
 rw[if_neg w0];have dw0:(((k1 % 8:Nat):Int)==0)=false:=by simp;omega
 by_cases w2:k1 % 8=2
 · rw[if_pos w2]
   have dw2:(((k1 % 8:Nat):Int)==2)=true:=by simp;omega
   have dw1:(((k1 % 8:Nat):Int)==1)=false:=by simp;omega
   generalize varM 0 0 (l.drop (p+n))=v at *;obtain⟨v1,m,e⟩:=v;unfold varD at hv2;simp only at hv2 he2 hk2 ⊢;by_cases hz:e≠0
   · rw[if_pos hz]
     have d1:((e:Int) !=0)=true:=by simp;omega
     simp(disch:=first|exact y7|fail) only[go_sem,X_af,c_af,hv,e7,bb,e3,wq,d_a,d_b,dw0,dw1,dw2,hv2,d1]
     unfold lr;rw[if_neg hz];rfl
   · have hz:=Decidable.not_not.1 hz
     subst hz;obtain⟨hlt2,hpos2,hfit2,hfew2⟩:=hk2 rfl;simp only at hlt2 hpos2 hfit2 hfew2;rw[if_neg zb];by_cases hbig:v1>l.length-p-(n+m)
     · have d_c:decide ((v1:Int)>(l.length:Int)-(p+n+m))=true:=by simp<;>omega
       rw[if_pos hbig];simp(disch:=first|exact y7|fail) only[go_sem,X_af,c_af,hv,e7,bb,e3,wq,d_a,d_b,dw0,dw1,dw2,hv2,d_c]
       rfl
     · have d_c:decide ((v1:Int)>(l.length:Int)-(p+n+m))=false:=by simp<;>omega
       rw[if_neg hbig];have ep:=beh (l:=l) (a:=(p:Int)+n+m) (b:=(p:Int)+n+m+v1) (p+(n+m)) v1 y8 y8;have hle:((l.drop (p+(n+m))).take v1).length≤262144:=by simp;omega
       generalize(l.drop (p+(n+m))).take v1=q at *;cases q with
       | nil=>
        simp only[List.map_nil] at ep;simp(disch:=first|exact y7|fail) only[go_sem,X_af,c_af,hv,e7,bb,e3,wq,d_a,d_b,dw0,dw1,dw2,hv2,d_c,ep]
        rw[w2];unfold lr Fld.d;simp only[if_true,Int.natCast_add,List.map_nil,Int.add_assoc];rfl
       | cons x q=>
        simp only[List.map_cons] at ep;simp only[List.length_cons] at hle;simp(disch:=first|exact y7|fail) only[go_sem,X_af,c_af,hv,e7,bb,e3,wq,d_a,d_b,dw0,dw1,dw2,hv2,d_c,ep]
        rw[w2];unfold lr Fld.d;simp only[if_true,Int.natCast_add,Int.add_assoc];rfl
 rw[if_neg w2];have dw2:(((k1 % 8:Nat):Int)==2)=false:=by simp;omega
 have size:∀ z:Nat,z=8∨z=4→¬ z>l.length-p-n→go X_af [.c (.loop x6),.b 1,.c (.seq wv .ret)] ⟨[(0,.d (.sl ((l).map byteD))),(1,.d (.int .i64 (((p:Int)+n)))),(4,.ref 0 4 0),(10,.ref 0 10 0),(11,.d (.int .i64 ((z:Int)))),(18,.d (.int .i64 ((z:Int)-1)))],fbox ((k1 / 8:Nat):Int) ((k1 % 8:Nat):Int) p 0 (.d .nilS)⟩=
     some (.d (.tup [.agg [.int .i64 ((k1 / 8:Nat):Int),.int .i64 ((k1 % 8:Nat):Int),.int .u64 ((leN ((l.drop (p+n)).take z):Nat):Int),.sl [],.int .i64 (p:Int)],.int .i64 ((p+n+z:Nat):Int),.int .i64 0]),[]):=fun z hz hn=>by
   have hlen:((l.drop (p+n)).take z).length=z:=by simp;omega
   have:=ko l ((k1 / 8:Nat):Int) ((k1 % 8:Nat):Int) p (p+n) z z ((l.drop (p+n)).take z) 0 (fun j hj=>by
     rw[List.getElem?_take,if_pos hj,List.getElem?_drop]) hlen y8 (z8 _) (by rw[aa6 y8];rfl) hl y8
   rw[show((p+n:Nat):Int)=(p:Int)+n by omega] at this
   exact this
 by_cases w1:k1 % 8=1
 · rw[if_pos w1]
   have dw1:(((k1 % 8:Nat):Int)==1)=true:=by simp;omega
   by_cases hs:8>l.length-p-n
   · have d_c:decide ((l.length:Int)-(p+n)<8)=true:=by simp<;>omega
     rw[if_pos hs];simp(disch:=first|exact y7|fail) only[go_sem,X_af,c_af,hv,e7,bb,e3,wq,d_a,d_b,dw0,dw2,dw1,d_c]
     rfl
   · have d_c:decide ((l.length:Int)-(p+n)<8)=false:=by simp<;>omega
     rw[if_neg hs];simp(disch:=first|exact y7|fail) only[go_sem,X_af,c_af,hv,e7,bb,e3,wq,d_a,d_b,dw0,dw2,dw1,d_c]
     refine(size 8 (.inl rfl) hs).trans ?_;rw[w1];unfold lr Fld.d;simp only[if_true,Int.natCast_add,List.map_nil,Int.add_assoc];rfl
 rw[if_neg w1];have dw1:(((k1 % 8:Nat):Int)==1)=false:=by simp;omega
 by_cases w5:k1 % 8=5
 · rw[if_pos w5]
   have dw5:(((k1 % 8:Nat):Int)==5)=true:=by simp;omega
   by_cases hs:4>l.length-p-n
   · have d_c:decide ((l.length:Int)-(p+n)<4)=true:=by simp<;>omega
     rw[if_pos hs];simp(disch:=first|exact y7|fail) only[go_sem,X_af,c_af,hv,e7,bb,e3,wq,d_a,d_b,dw0,dw2,dw1,dw5,d_c]
     rfl
   · have d_c:decide ((l.length:Int)-(p+n)<4)=false:=by simp<;>omega
     rw[if_neg hs];simp(disch:=first|exact y7|fail) only[go_sem,X_af,c_af,hv,e7,bb,e3,wq,d_a,d_b,dw0,dw2,dw1,dw5,d_c]
     refine(size 4 (.inr rfl) hs).trans ?_;rw[w5];unfold lr Fld.d;simp only[if_true,Int.natCast_add,List.map_nil,Int.add_assoc];rfl
 rw[if_neg w5];have dw5:(((k1 % 8:Nat):Int)==5)=false:=by simp;omega
 simp(disch:=first|exact y7|fail) only[go_sem,X_af,c_af,hv,e7,bb,e3,wq,d_a,d_b,dw0,dw2,dw1,dw5]
 rfl
