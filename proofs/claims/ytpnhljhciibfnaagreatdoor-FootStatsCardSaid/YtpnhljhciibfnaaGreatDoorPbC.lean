import Derived.Test.YtpnhljhciibfnaaGreatDoorPbA
namespace Go.Proofs.YtpnhljhciibfnaaGreatDoor
open Go Go.Ev
set_option maxHeartbeats 4000000
theorem shlR {u c:Nat} (hu:u<72057594037927936) (hc:c<256):orI .u64 (GJ .u64 (u:Int) 8) (c:Int)=((c+256*u:Nat):Int):=by
 have h1:=Hu (k:= .u64) rfl u (n:=8) aa4;rw[show((8:Nat):Int)=8 from rfl] at h1
 rw[h1,show(2:Nat) ^ IntKind.u64.bits=18446744073709551616 from rfl,acv aa1]
 rw[orU (k:= .u64) rfl (a:=u*2 ^ 8) (b:=c) (by show u*2 ^ 8<18446744073709551616;omega) (by show c<18446744073709551616;omega)]
 rw[Nat.or_comm,wy (a:=c) (b:=u) (n:=8) aa1];omega
theorem l6 (l:List UInt8) (N W A:Int) (p z:Nat):∀ (i:Nat) (q:List UInt8) (u:Nat),(∀ j,j<z→l[p+j]? =q[j]?)→q.length=z→z≤8→i≤z→u=leN (q.drop i)→l.length≤262144→p+z≤l.length→
  go D1 [.c (.loop aaa),.b 1,.c (.seq ym .ret)] ⟨[(0,.d (.sl ((l).map AM))),(1,.d (.int .i64 ((p:Int)))),(4,.ref 0 4 0),(10,.ref 0 10 0),(11,.d (.int .i64 ((z:Int)))),(18,.d (.int .i64 ((i:Int)-1)))],mN N W A u (.d .AB)⟩=
   some (.d (.tup [.agg [.int .i64 N,.int .i64 W,.int .u64 ((leN q:Nat):Int),.sl [],.int .i64 A],.int .i64 ((p+z:Nat):Int),.int .i64 0]),[])
 | 0,q,u,hq,hz,h8,hi,hu,hl,hp=>by
  have d_a:decide ((-1:Int)≥0)=false:=rfl;rw[go_loop];simp only[List.drop_zero] at hu;subst hu;simp(disch:=first|exact aa0|fail) only[go_sem,D1,d_a,Int.natCast_add]
 | i+1,q,u,hq,hz,h8,hi,hu,hl,hp=>by
  have hlt:i<q.length:=aa1;have d_a:decide (((i+1:Nat):Int)-1≥0)=true:=by simp<;>omega
  have hc:l[p+i]? =some q[i]:=by rw[hq i aa1,abd hlt]
  have h256:=E1 q[i];have hd:leN (q.drop i)=q[i].toNat+256*u:=by rw[act hlt,leN,hu]
  have hlu:u<72057594037927936:=by
   have:=bes (q.drop (i+1));rw[← hu] at this;have h2:(q.drop (i+1)).length≤7:=by simp;omega
   exact ab3 this (by
    have:=acw (n:=256) aa1 h2;exact this)
  have es:=shlR hlu h256;have ih:=l6 l N W A p z i q (q[i].toNat+256*u) hq hz h8 aa1 hd.symm hl hp;have hidx:((p:Int)+((i+1:Nat)-1)).toNat=p+i:=aa1;rw[go_loop];simp(disch:=first|exact aa0|fail) only[go_sem,D1,d_a,aq,hidx,hc,av,es,f7]
  rw[show((i+1:Nat):Int)-1-1=(i:Int)-1 by omega]
  exact ih
def mt (p:Nat) (r:Fld×Nat×Nat):V:= .d (.tup [r.1.d,.int .i64 ((if r.2.2=0 then p+r.2.1 else 0:Nat):Int),.int .i64 (r.2.2:Int)])
theorem vy {l:List UInt8} {p:Nat} (hp:p≤l.length) (hl:l.length≤262144):evL cfg T5 0 [.d (.sl ((l).map AM)),.d (.int .i64 ((p:Int)))] []=some (mt p (b7 l p),[]):=by
 rw[o_ae];have hv:=l9 hp aa1;unfold b7;simp only;by_cases he:(Ay 0 0 (l.drop p)).2.2≠0
 · rw[if_pos he]
   generalize Ay 0 0 (l.drop p)=k at *;obtain⟨k1,n,e⟩:=k;simp only at he ⊢;have d1:((e:Int) !=0)=true:=by simp;omega
   unfold DX at hv;simp(disch:=first|exact aa0|fail) only[go_sem,D1,ER,hv,d1]
   unfold mt;rw[if_neg he];rfl
 rw[if_neg he];have he:=Decidable.not_not.1 he;have hk:=bev he hp;generalize hkk:Ay 0 0 (l.drop p)=k at *;obtain⟨k1,n,e⟩:=k;simp only at he ⊢;subst he;obtain⟨hlt,hpos,hfit,hfew⟩:=hk;simp only at hlt hpos hfit hfew;unfold DX at hv;simp only at hv;have e7:=and7 k1 hlt;have e3:=shr3 k1;have wq:IntKind.i64.wrap ((k1 / 8:Nat):Int)=((k1 / 8:Nat):Int):=au aa1 aa1;by_cases hq:k1 / 8<1∨k1 / 8>536870911
 · rw[if_pos hq]
   rcases hq with hq|hq
   · have d_a:decide (((k1 / 8:Nat):Int)<1)=true:=by simp<;>omega
     simp(disch:=first|exact aa0|fail) only[go_sem,D1,ER,hv,e7,bg,e3,wq,d_a]
     rfl
   · have d_a:decide (((k1 / 8:Nat):Int)<1)=false:=by simp<;>omega
     have d_b:decide (((k1 / 8:Nat):Int)>536870911)=true:=by simp<;>omega
     simp(disch:=first|exact aa0|fail) only[go_sem,D1,ER,hv,e7,bg,e3,wq,d_a,d_b]
     rfl
 rw[if_neg hq];rw[not_or] at hq;have d_a:decide (((k1 / 8:Nat):Int)<1)=false:=by simp<;>omega
 have d_b:decide (((k1 / 8:Nat):Int)>536870911)=false:=by simp<;>omega
 have hv2:=l9 (b:=l) (p:=p+n) hfit aa1;rw[show((p+n:Nat):Int)=(p:Int)+n by omega] at hv2
 have he2:=Wy l (p+n);have hk2:=fun h=>bev (l:=l) (p:=p+n) h hfit
 by_cases w0:k1 % 8=0
 · rw[if_pos w0]
   generalize Ay 0 0 (l.drop (p+n))=v at *;obtain⟨v1,m,e⟩:=v;unfold DX at hv2;simp only at hv2 he2 hk2 ⊢;have dw0:(((k1 % 8:Nat):Int)==0)=true:=by simp;omega
   by_cases hz:e≠0
   · rw[if_pos hz]
     have d1:((e:Int) !=0)=true:=by simp;omega
     simp(disch:=first|exact aa0|fail) only[go_sem,D1,ER,hv,e7,bg,e3,wq,d_a,d_b,dw0,hv2,d1]
     unfold mt;rw[if_neg hz];rfl
   · have hz:=Decidable.not_not.1 hz
     subst hz;obtain⟨hlt2,hpos2,hfit2,hfew2⟩:=hk2 rfl;simp only at hlt2 hpos2 hfit2 hfew2;simp(disch:=first|exact aa0|fail) only[go_sem,D1,ER,hv,e7,bg,e3,wq,d_a,d_b,dw0,hv2]
     rw[w0];simp only[if_true,abp,if_false];unfold mt Fld.d;simp only[if_true,Int.natCast_add,List.map_nil,Int.add_assoc];rfl
 rw[if_neg w0];have dw0:(((k1 % 8:Nat):Int)==0)=false:=by simp;omega
 by_cases w2:k1 % 8=2
 · rw[if_pos w2]
   have dw2:(((k1 % 8:Nat):Int)==2)=true:=by simp;omega
   have dw1:(((k1 % 8:Nat):Int)==1)=false:=by simp;omega
   generalize Ay 0 0 (l.drop (p+n))=v at *;obtain⟨v1,m,e⟩:=v;unfold DX at hv2;simp only at hv2 he2 hk2 ⊢;by_cases hz:e≠0
   · rw[if_pos hz]
     have d1:((e:Int) !=0)=true:=by simp;omega
     simp(disch:=first|exact aa0|fail) only[go_sem,D1,ER,hv,e7,bg,e3,wq,d_a,d_b,dw0,dw1,dw2,hv2,d1]
     unfold mt;rw[if_neg hz];rfl
   · have hz:=Decidable.not_not.1 hz
     subst hz;obtain⟨hlt2,hpos2,hfit2,hfew2⟩:=hk2 rfl;simp only at hlt2 hpos2 hfit2 hfew2;rw[if_neg aa3];by_cases hbig:v1>l.length-p-(n+m)
     · have d_c:decide ((v1:Int)>(l.length:Int)-(p+n+m))=true:=by simp<;>omega
       rw[if_pos hbig];simp(disch:=first|exact aa0|fail) only[go_sem,D1,ER,hv,e7,bg,e3,wq,d_a,d_b,dw0,dw1,dw2,hv2,d_c]
       rfl
     · have d_c:decide ((v1:Int)>(l.length:Int)-(p+n+m))=false:=by simp<;>omega
       rw[if_neg hbig];have ep:=bem (l:=l) (a:=(p:Int)+n+m) (b:=(p:Int)+n+m+v1) (p+(n+m)) v1 aa1 aa1;have hle:((l.drop (p+(n+m))).take v1).length≤262144:=by simp;omega
       generalize(l.drop (p+(n+m))).take v1=q at *;cases q with
       | nil=>
        simp only[List.map_nil] at ep;simp(disch:=first|exact aa0|fail) only[go_sem,D1,ER,hv,e7,bg,e3,wq,d_a,d_b,dw0,dw1,dw2,hv2,d_c,ep]
        rw[w2];unfold mt Fld.d;simp only[if_true,Int.natCast_add,List.map_nil,Int.add_assoc];rfl
       | cons x q=>
        simp only[List.map_cons] at ep;simp only[List.length_cons] at hle;simp(disch:=first|exact aa0|fail) only[go_sem,D1,ER,hv,e7,bg,e3,wq,d_a,d_b,dw0,dw1,dw2,hv2,d_c,ep]
        rw[w2];unfold mt Fld.d;simp only[if_true,Int.natCast_add,Int.add_assoc];rfl
 rw[if_neg w2];have dw2:(((k1 % 8:Nat):Int)==2)=false:=by simp;omega
 have size:∀ z:Nat,z=8∨z=4→¬ z>l.length-p-n→go D1 [.c (.loop aaa),.b 1,.c (.seq ym .ret)] ⟨[(0,.d (.sl ((l).map AM))),(1,.d (.int .i64 (((p:Int)+n)))),(4,.ref 0 4 0),(10,.ref 0 10 0),(11,.d (.int .i64 ((z:Int)))),(18,.d (.int .i64 ((z:Int)-1)))],mN ((k1 / 8:Nat):Int) ((k1 % 8:Nat):Int) p 0 (.d .AB)⟩=
     some (.d (.tup [.agg [.int .i64 ((k1 / 8:Nat):Int),.int .i64 ((k1 % 8:Nat):Int),.int .u64 ((leN ((l.drop (p+n)).take z):Nat):Int),.sl [],.int .i64 (p:Int)],.int .i64 ((p+n+z:Nat):Int),.int .i64 0]),[]):=fun z hz hn=>by
   have hlen:((l.drop (p+n)).take z).length=z:=by simp;omega
   have:=l6 l ((k1 / 8:Nat):Int) ((k1 % 8:Nat):Int) p (p+n) z z ((l.drop (p+n)).take z) 0 (fun j hj=>by
     rw[List.getElem?_take,if_pos hj,List.getElem?_drop]) hlen aa1 (abn _) (by rw[acp aa1];rfl) hl aa1
   rw[show((p+n:Nat):Int)=(p:Int)+n by omega] at this
   exact this
 by_cases w1:k1 % 8=1
 · rw[if_pos w1]
   have dw1:(((k1 % 8:Nat):Int)==1)=true:=by simp;omega
   by_cases hs:8>l.length-p-n
   · have d_c:decide ((l.length:Int)-(p+n)<8)=true:=by simp<;>omega
     rw[if_pos hs];simp(disch:=first|exact aa0|fail) only[go_sem,D1,ER,hv,e7,bg,e3,wq,d_a,d_b,dw0,dw2,dw1,d_c]
     rfl
   · have d_c:decide ((l.length:Int)-(p+n)<8)=false:=by simp<;>omega
     rw[if_neg hs];simp(disch:=first|exact aa0|fail) only[go_sem,D1,ER,hv,e7,bg,e3,wq,d_a,d_b,dw0,dw2,dw1,d_c]
     refine(size 8 (.inl rfl) hs).trans ?_;rw[w1];unfold mt Fld.d;simp only[if_true,Int.natCast_add,List.map_nil,Int.add_assoc];rfl
 rw[if_neg w1];have dw1:(((k1 % 8:Nat):Int)==1)=false:=by simp;omega
 by_cases w5:k1 % 8=5
 · rw[if_pos w5]
   have dw5:(((k1 % 8:Nat):Int)==5)=true:=by simp;omega
   by_cases hs:4>l.length-p-n
   · have d_c:decide ((l.length:Int)-(p+n)<4)=true:=by simp<;>omega
     rw[if_pos hs];simp(disch:=first|exact aa0|fail) only[go_sem,D1,ER,hv,e7,bg,e3,wq,d_a,d_b,dw0,dw2,dw1,dw5,d_c]
     rfl
   · have d_c:decide ((l.length:Int)-(p+n)<4)=false:=by simp<;>omega
     rw[if_neg hs];simp(disch:=first|exact aa0|fail) only[go_sem,D1,ER,hv,e7,bg,e3,wq,d_a,d_b,dw0,dw2,dw1,dw5,d_c]
     refine(size 4 (.inr rfl) hs).trans ?_;rw[w5];unfold mt Fld.d;simp only[if_true,Int.natCast_add,List.map_nil,Int.add_assoc];rfl
 rw[if_neg w5];have dw5:(((k1 % 8:Nat):Int)==5)=false:=by simp;omega
 simp(disch:=first|exact aa0|fail) only[go_sem,D1,ER,hv,e7,bg,e3,wq,d_a,d_b,dw0,dw2,dw1,dw5]
 rfl
theorem xn {l:List UInt8} {p:Nat} (h:(b7 l p).2.2=0) (hp:p≤l.length):1≤(b7 l p).2.1∧p+(b7 l p).2.1≤l.length:=by
 have h1:=fun h=>x7 (l:=l) (p:=p) h hp
 unfold b7 at h ⊢;simp only at h ⊢;by_cases he:(Ay 0 0 (l.drop p)).2.2≠0
 · rw[if_pos he] at h;exact absurd h he
 rw[if_neg he] at h ⊢;obtain⟨_,a2,a3,_⟩:=h1 (Decidable.not_not.1 he);generalize Ay 0 0 (l.drop p)=k at *;obtain⟨k1,n,e⟩:=k;simp only at *;by_cases hq:k1 / 8<1∨k1 / 8>536870911
 · rw[if_pos hq] at h;exact absurd h aa3
 rw[if_neg hq] at h ⊢;have h2:=fun h=>x7 (l:=l) (p:=p+n) h a3
 generalize Ay 0 0 (l.drop (p+n))=v at *;obtain⟨v1,m,e2⟩:=v;simp only at *;by_cases w0:k1 % 8=0
 · rw[if_pos w0] at h ⊢
   by_cases hz:e2≠0
   · rw[if_pos hz] at h;exact absurd h hz
   rw[if_neg hz];obtain⟨_,b2,b3,_⟩:=h2 (Decidable.not_not.1 hz);simp only;omega
 rw[if_neg w0] at h ⊢;by_cases w2:k1 % 8=2
 · rw[if_pos w2] at h ⊢
   by_cases hz:e2≠0
   · rw[if_pos hz] at h;exact absurd h hz
   rw[if_neg hz] at h ⊢;obtain⟨_,b2,b3,_⟩:=h2 (Decidable.not_not.1 hz);by_cases hs:v1>l.length-p-(n+m)
   · rw[if_pos hs] at h;exact absurd h aa3
   rw[if_neg hs];simp only;omega
 rw[if_neg w2] at h ⊢;by_cases w1:k1 % 8=1
 · rw[if_pos w1] at h ⊢
   by_cases hs:8>l.length-p-n
   · rw[if_pos hs] at h;exact absurd h aa3
   rw[if_neg hs];simp only;omega
 rw[if_neg w1] at h ⊢;by_cases w5:k1 % 8=5
 · rw[if_pos w5] at h ⊢
   by_cases hs:4>l.length-p-n
   · rw[if_pos hs] at h;exact absurd h aa3
   rw[if_neg hs];simp only;omega
 rw[if_neg w5] at h;exact absurd h aa3
def dh (r:List Fld×Nat):V:= .d (.tup [.sl (r.1.map Fld.d),.int .i64 (r.2:Int)])
def Dd (z:Nat) (acc:List D):V:=if acc.isEmpty then .d .AB else .own false z acc
theorem bh (z:Nat):Dd z []= .d .AB:=rfl
theorem bm (z:Nat) (d:D) (r:List D):Dd z (d::r)= .own false z (d::r):=rfl
theorem ug (z:Nat) (r:List D) (d:D):Dd z (r++[d])= .own false z (r++[d]):=by cases r<;>rfl
theorem ownF (acc:List Fld) (f:Fld):Dd 5 ((acc++[f]).map Fld.d)= .own false 5 (acc.map Fld.d++[f.d]):=by
 rw[List.map_append,List.map_cons,List.map_nil,ug]
def FJ (k:Nat):Option Fld→List (Cel×V)
 |none=>[]
 |some f=>[(⟨0,k,0⟩,.d (.int .i64 ((f.num:Int)))),(⟨0,k,1⟩,.d (.int .i64 ((f.A0:Int)))),(⟨0,k,2⟩,.d (.int .u64 ((f.u:Int)))),(⟨0,k,3⟩,.d (.sl ((f.b).map AM))),(⟨0,k,4⟩,.d (.int .i64 ((f.pl:Int))))]
theorem vn (k:Nat):FJ k none=[]:=rfl
theorem ao (k:Nat) (o:Option Fld):Bq 0 k (FJ k o)=[]:=by
 cases o with
 |none=>rfl
 |some f=>simp only[FJ,xl,ao0,true_and,if_true]
theorem ag (k:Nat) (o:Option Fld):BI 0 (FJ k o)=FJ k o:=by cases o<;>rfl
theorem aj (k:Nat) (o:Option Fld):Ap 0 (FJ k o)=[]:=by cases o<;>rfl
theorem nz:decide ((0:Int)≥4096)=false:=rfl
theorem pi {l:List UInt8} (hl:l.length≤262144):∀ (n p:Nat) (acc:List Fld) (o:Option Fld),l.length-p<n→p≤l.length→acc.length≤4096→
  go Gl [.c (.loop avx),.b 0,.c (.seq aqc .ret)] ⟨[(0,.d (.sl ((l).map AM))),(4,Dd 5 (acc.map Fld.d)),(5,.d (.int .i64 ((p:Int))))],FJ 6 o⟩=some (dh (gq l n p acc),[])
 |0,p,acc,o,hn,hp,ha=>absurd hn (Nat.not_lt_zero _)
 | n+1,p,acc,o,hn,hp,ha=>by
  rw[gq];rw[go_loop];by_cases h:p<l.length
  · rw[if_pos h]
    have d_a:decide ((p:Int)<l.length)=true:=by simp<;>omega
    by_cases hm:4096≤acc.length
    · rw[if_pos hm]
      have d_b:decide ((acc.length:Int)≥4096)=true:=by simp<;>omega
      cases acc with
      |nil=>simp at hm
      | cons x acc=>
        simp only[List.length_cons] at d_b;simp(disch:=first|exact aa0|fail) only[go_sem,Gl,ao,ag,aj,d_a,d_b,List.map_cons,bm,List.length_cons,abl]
        rfl
    · rw[if_neg hm]
      have d_b:decide ((acc.length:Int)≥4096)=false:=by simp<;>omega
      have hf:=an2 hp hl;have hfit:=fun h=>xn (l:=l) (p:=p) h hp
      by_cases he:(b7 l p).2.2≠0
      · rw[if_pos he]
        generalize b7 l p=r at *;obtain⟨f,n,e⟩:=r;simp only at he ⊢;have d1:((e:Int) !=0)=true:=by simp;omega
        unfold r9 Fld.d at hf;cases acc with
        | nil=>
         simp(disch:=first|exact aa0|fail) only[go_sem,Gl,ao,ag,aj,d_a,nz,hf,d1,List.map_nil,bh]
         rfl
        | cons x acc=>
         simp only[List.length_cons] at d_b;simp(disch:=first|exact aa0|fail) only[go_sem,Gl,ao,ag,aj,d_a,d_b,hf,d1,List.map_cons,bm,abl]
         rfl
      · rw[if_neg he]
        have he:=Decidable.not_not.1 he;obtain⟨f1,f2⟩:=hfit he;have ih:=pi hl n (p+(b7 l p).2.1) (acc++[(b7 l p).1]) (some (b7 l p).1) aa1 f2 (by simp;omega)
        rw[ownF] at ih;rw[← ih];generalize b7 l p=r at *;obtain⟨f,n,e⟩:=r;simp only at he f1 f2 ⊢;subst he;unfold r9 Fld.d at hf;rw[Int.natCast_add];cases acc with
        | nil=>
         simp(disch:=first|exact aa0|fail) only[go_sem,Gl,ao,ag,aj,d_a,nz,hf,List.map_nil,bh,Fld.d,List.nil_append]
         rfl
        | cons x acc=>
         simp only[List.length_cons] at d_b hm;rw[List.map_cons];generalize x.d=y;simp(disch:=first|exact aa0|fail) only[go_sem,Gl,ao,ag,aj,d_a,d_b,hf,List.map_cons,bm,abl,Fld.d,List.cons_append]
         rfl
  · rw[if_neg h]
    have d_a:decide ((p:Int)<l.length)=false:=by simp<;>omega
    cases acc with
    | nil=>
      simp(disch:=first|exact aa0|fail) only[go_sem,Gl,ao,ag,aj,d_a,List.map_nil,bh]
      rfl
    | cons x acc=>
      simp(disch:=first|exact aa0|fail) only[go_sem,Gl,ao,ag,aj,d_a,List.map_cons,bm]
      rfl
theorem b9 (l:List UInt8):l.length≤1000000→evL cfg Ry 0 [.d (.sl ((l).map AM))] []=some (dh (aa l),[]):=by
 intro hl;rw[o_b9];unfold aa;by_cases h:l.length>262144
 · rw[if_pos h]
   have d_a:decide ((l.length:Int)>262144)=true:=by simp<;>omega
   simp(disch:=first|exact aa0|fail) only[go_sem,Gl,XP,d_a]
   rfl
 · rw[if_neg h]
   have d_a:decide ((l.length:Int)>262144)=false:=by simp<;>omega
   have:=pi (l:=l) aa1 (l.length+1) 0 [] none aa1 aa1 aa3;rw[List.map_nil,bh,vn] at this;simp(disch:=first|exact aa0|fail) only[go_sem,Gl,XP,d_a]
   exact this
theorem l8 {l:List UInt8} (hl:l.length≤262144):∀ (n p:Nat) (acc:List Fld) (o:Option Fld),l.length-p<n→p≤l.length→acc.length≤4096→
  go Gm [.c (.loop av1),.b 0,.c (.seq aq7 .ret)] ⟨[(0,.d (.sl ((l).map AM))),(4,Dd 5 (acc.map Fld.d)),(5,.d (.int .i64 ((p:Int))))],FJ 6 o⟩=some (dh (gq l n p acc),[])
 |0,p,acc,o,hn,hp,ha=>absurd hn (Nat.not_lt_zero _)
 | n+1,p,acc,o,hn,hp,ha=>by
  rw[gq];rw[go_loop];by_cases h:p<l.length
  · rw[if_pos h]
    have d_a:decide ((p:Int)<l.length)=true:=by simp<;>omega
    by_cases hm:4096≤acc.length
    · rw[if_pos hm]
      have d_b:(((acc.length:Int))==4096)=true:=by simp;omega
      cases acc with
      |nil=>simp at hm
      | cons x acc=>
        simp only[List.length_cons] at d_b;simp(disch:=first|exact aa0|fail) only[go_sem,Gm,ao,ag,aj,d_a,d_b,List.map_cons,bm,List.length_cons,abl]
        rfl
    · rw[if_neg hm]
      have d_b:(((acc.length:Int))==4096)=false:=by simp;omega
      have hf:=vy hp hl;have hfit:=fun h=>xn (l:=l) (p:=p) h hp
      by_cases he:(b7 l p).2.2≠0
      · rw[if_pos he]
        generalize b7 l p=r at *;obtain⟨f,n,e⟩:=r;simp only at he ⊢;have d1:((e:Int) !=0)=true:=by simp;omega
        unfold mt Fld.d at hf;simp only[he,if_true,if_false] at hf;cases acc with
        | nil=>
         simp(disch:=first|exact aa0|fail) only[go_sem,Gm,ao,ag,aj,d_a,nz,hf,d1,List.map_nil,bh]
         rfl
        | cons x acc=>
         simp only[List.length_cons] at d_b;simp(disch:=first|exact aa0|fail) only[go_sem,Gm,ao,ag,aj,d_a,d_b,hf,d1,List.map_cons,bm,abl]
         rfl
      · rw[if_neg he]
        have he:=Decidable.not_not.1 he;obtain⟨f1,f2⟩:=hfit he;have ih:=l8 hl n (p+(b7 l p).2.1) (acc++[(b7 l p).1]) (some (b7 l p).1) aa1 f2 (by simp;omega)
        rw[ownF] at ih;rw[← ih];generalize b7 l p=r at *;obtain⟨f,n,e⟩:=r;simp only at he f1 f2 ⊢;subst he;unfold mt Fld.d at hf;simp only[he,if_true,if_false] at hf;rw[Int.natCast_add];cases acc with
        | nil=>
         simp(disch:=first|exact aa0|fail) only[go_sem,Gm,ao,ag,aj,d_a,nz,hf,List.map_nil,bh,Fld.d,List.nil_append]
         rfl
        | cons x acc=>
         simp only[List.length_cons] at d_b hm;rw[List.map_cons];generalize x.d=y;simp(disch:=first|exact aa0|fail) only[go_sem,Gm,ao,ag,aj,d_a,d_b,hf,List.map_cons,bm,abl,Fld.d,List.cons_append]
         rfl
  · rw[if_neg h]
    have d_a:decide ((p:Int)<l.length)=false:=by simp<;>omega
    cases acc with
    | nil=>
      simp(disch:=first|exact aa0|fail) only[go_sem,Gm,ao,ag,aj,d_a,List.map_nil,bh]
      rfl
    | cons x acc=>
      simp(disch:=first|exact aa0|fail) only[go_sem,Gm,ao,ag,aj,d_a,List.map_cons,bm]
      rfl
theorem al (l:List UInt8):l.length≤1000000→evL cfg Rz 0 [.d (.sl ((l).map AM))] []=some (dh (aa l),[]):=by
 intro hl;rw[o_av];unfold aa;by_cases h:l.length>262144
 · rw[if_pos h]
   have d_a:decide ((l.length:Int)>262144)=true:=by simp<;>omega
   simp(disch:=first|exact aa0|fail) only[go_sem,Gm,XS,d_a]
   rfl
 · rw[if_neg h]
   have d_a:decide ((l.length:Int)>262144)=false:=by simp<;>omega
   have:=l8 (l:=l) aa1 (l.length+1) 0 [] none aa1 aa1 aa3;rw[List.map_nil,bh,vn] at this;simp(disch:=first|exact aa0|fail) only[go_sem,Gm,XS,d_a]
   exact this
