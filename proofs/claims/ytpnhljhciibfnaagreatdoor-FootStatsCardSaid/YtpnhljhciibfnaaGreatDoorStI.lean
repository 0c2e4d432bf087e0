import Derived.Test.YtpnhljhciibfnaaGreatDoorStH
set_option linter.unusedSimpArgs false
namespace Go.Proofs.YtpnhljhciibfnaaGreatDoor
open Go Go.Ev
set_option maxHeartbeats 8000000
theorem tj (k:Int) (sc:Nat) (s:Sv):Ae (Bc k sc s)=if(decide (k>0)&&(s.has||s.AU))=true then AZ 1 s.cnt.toNat++ah k.toNat (Ae (Ah k sc s))++AZ 10 (if s.null=true then 1 else 0) else AZ 1 s.cnt.toNat++AZ 10 (if s.null=true then 1 else 0):=by
 unfold Bc;split<;>simp[Ae,Put.bytes]
theorem df (k:Int):AL k=if(decide (k≥1)&&decide (k≤4))=true then 2 else if(BV k&&k !=8)=true then 4 else if(k==0)=true then 5 else if(k==14)=true then 6 else if(k==15)=true then 7 else if(k==8)=true then 8 else if(k==9)=true then 9 else 0:=by
 unfold AL BV;by_cases h:0≤k∧k≤17
 · have:k=0∨k=1∨k=2∨k=3∨k=4∨k=5∨k=6∨k=7∨k=8∨k=9∨k=10∨k=11∨k=12∨k=13∨k=14∨k=15∨k=16∨k=17:=aa1
   rcases this with rfl|rfl|rfl|rfl|rfl|rfl|rfl|rfl|rfl|rfl|rfl|rfl|rfl|rfl|rfl|rfl|rfl|rfl<;>rfl
 · have e:∀ n:Int,0≤n→n≤17→(k==n)=false:=fun n h1 h2=>by simp;omega
   have g:(decide (k≥1)&&decide (k≤4))=false:=by simp;omega
   rw[e 0 aa1 aa1,e 1 aa1 aa1,e 2 aa1 aa1,e 3 aa1 aa1,e 4 aa1 aa1,e 7 aa1 aa1,e 8 aa1 aa1,e 9 aa1 aa1,e 14 aa1 aa1,e 15 aa1 aa1,e 16 aa1 aa1,e 17 aa1 aa1,g];simp
theorem brx {cnt:Nat} (hc:cnt≤262144) (m:Nat) (hm:m≤1):evL cfg FV 0 [.own false 1 ((AZ 1 cnt).map AM),.d (.int .i64 (10)),.d (.int .u64 ((m:Int)))] []=some (.own false 1 ((AZ 1 cnt++AZ 10 m).map AM),[]):=
 bq (b:=AZ 1 cnt) (num:=10) (v:=m) (abo (bc _ _).2 aa1) aa1 aa1 aa1
theorem brw {cnt:Nat} (hc:cnt≤262144) (q:List UInt8) (hq:q.length≤24000) (k:Nat) (m:Nat) (hm:m≤1):evL cfg FV 0 [.own false 1 ((AZ 1 cnt++ah k q).map AM),.d (.int .i64 (10)),.d (.int .u64 ((m:Int)))] []=some (.own false 1 ((AZ 1 cnt++ah k q++AZ 10 m).map AM),[]):=
 bq (b:=AZ 1 cnt++ah k q) (num:=10) (v:=m) (by rw[abk];have:=(bc 1 cnt).2;have:=(cr k q).2;omega) aa1 aa1 aa1
theorem Yg {cnt:Nat} (q:List UInt8) (hq:q.length≤24000) (k:Nat) (h1:1≤k) (h2:k≤9):evL cfg EA 0 [.own false 1 ((AZ 1 cnt).map AM),.d (.int .i64 ((k:Int))),.d (.sl ((q).map AM))] []=some (.own false 1 ((AZ 1 cnt++ah k q).map AM),[]):=
 b0 (b:=AZ 1 cnt) (v:=q) (num:=k) (abo (bc _ _).2 aa1) h1 aa1 aa1
theorem pc (t:Ty) (sc:Nat) (hsc:t.scale=(sc:Int)) (s:Sv) (h:Ip s) (hs:sc≤18) (h5:AL t.kind=5→s.AU=true→0≤s.sum∧s.sum≤262144) (h9:AL t.kind=9→s.has=true→(0≤s.mn.n∧s.mn.n≤1000000000)∧0≤s.mx.n∧s.mx.n≤1000000000):
   evL cfg T6 0 [.d t.d,.d s.d] []=some (.own false 1 ((Ae (Bc (AL t.kind) sc s)).map AM),[]):=by
 have ul:=fun k v=>(bc k v).2
 have bl:=fun k v=>(cr k v).2
 have hb1:=h.b1;have hb2:=h.b2;have i1:=h.i1;have i2:=h.i2;have i3:=h.su;obtain⟨c1,c2⟩:=h.cnt;have cz:=abs c1;have hl:=(qd (AL t.kind) sc s h hs).2;have f1:=am t.kind;have f2:=ai t.kind;have u1:=kw (num:=1) (v:=s.cnt.toNat) aa1 aa1 aa1;rw[cz,show((1:Nat):Int)=1 from rfl] at u1
 rw[o_ab,tj];have e00:=brx (cnt:=s.cnt.toNat) aa1 0 aa1;have e01:=brx (cnt:=s.cnt.toNat) aa1 1 aa1;have e10:=fun q hq k=>brw (cnt:=s.cnt.toNat) aa1 q hq k 0 aa1
 have e11:=fun q hq k=>brw (cnt:=s.cnt.toNat) aa1 q hq k 1 aa1
 have eb:=fun q hq k h1 h2=>Yg (cnt:=s.cnt.toNat) q hq k h1 h2
 rw[show((0:Nat):Int)=0 from rfl] at e00
 rw[show((1:Nat):Int)=1 from rfl] at e01
 simp only[show((0:Nat):Int)=0 from rfl] at e10
 simp only[show((1:Nat):Int)=1 from rfl] at e11
 generalize s.cnt.toNat=cn at *;obtain⟨cnt,null,has,mn,mx,AU,sum⟩:=s;dsimp only at *;have hp:=df t.kind;rcases aa5 (decide (t.kind≥1)&&decide (t.kind≤4)) with k0|k0
 · rw[k0,if_pos rfl] at hp
   rw[hp] at hl h5 h9 ⊢;have d1:decide ((2:Int)>0)=true:=by simp
   cases has with
   | true=>
    cases AU with
    | true=>
     have hq:Ae (Ah 2 sc ⟨cnt,null,true,mn,mx,true,sum⟩)=AZ 1 (As mn.i)++AZ 2 (As mx.i)++AZ 3 (As sum):=by simp[Ah,A7,CJ,Ae,Put.bytes]
     rw[if_pos (by rw[d1];rfl),hq]
     rw[hq] at hl;have eb:=eb _ hl 2 aa1 aa1;have e10:=e10 _ hl 2;have e11:=e11 _ hl 2;rw[show((2:Nat):Int)=2 from rfl] at eb
     have pn1:=a7 (num:=1) (v:=mn.i) aa1 aa1 i1;rw[show((1:Nat):Int)=1 from rfl] at pn1
     have po2:=bp (b:=AZ 1 (As mn.i)) (num:=2) (v:=mx.i) (abo (ul _ _) aa1) aa1 aa1 i2;rw[show((2:Nat):Int)=2 from rfl] at po2
     have po3:=bp (b:=AZ 1 (As mn.i)++AZ 2 (As mx.i)) (num:=3) (v:=sum) (by rw[abk];have:=ul 1 (As mn.i);have:=ul 2 (As mx.i);omega) aa1 aa1 i3
     rw[show((3:Nat):Int)=3 from rfl] at po3
     simp only[Int.reduceToNat];simp(maxSteps:=2000000) (disch:=first|exact aa0|fail) only[go_sem,Ao,Am,f1,f2,u1,eb,hsc,d1,Sv.d,Sv.cs,pn1,po2,po3,k0]
     cases null with
     |false=>simp(maxSteps:=2000000) (disch:=first|exact aa0|fail) only[go_sem,Ao,Am,e10]
     |true=>simp(maxSteps:=2000000) (disch:=first|exact aa0|fail) only[go_sem,Ao,Am,e11]
    | false=>
     have hq:Ae (Ah 2 sc ⟨cnt,null,true,mn,mx,false,sum⟩)=AZ 1 (As mn.i)++AZ 2 (As mx.i):=by simp[Ah,A7,CJ,Ae,Put.bytes]
     rw[if_pos (by rw[d1];rfl),hq]
     rw[hq] at hl;have eb:=eb _ hl 2 aa1 aa1;have e10:=e10 _ hl 2;have e11:=e11 _ hl 2;rw[show((2:Nat):Int)=2 from rfl] at eb
     have pn1:=a7 (num:=1) (v:=mn.i) aa1 aa1 i1;rw[show((1:Nat):Int)=1 from rfl] at pn1
     have po2:=bp (b:=AZ 1 (As mn.i)) (num:=2) (v:=mx.i) (abo (ul _ _) aa1) aa1 aa1 i2;rw[show((2:Nat):Int)=2 from rfl] at po2
     simp only[Int.reduceToNat];simp(maxSteps:=2000000) (disch:=first|exact aa0|fail) only[go_sem,Ao,Am,f1,f2,u1,eb,hsc,d1,Sv.d,Sv.cs,pn1,po2,k0]
     cases null with
     |false=>simp(maxSteps:=2000000) (disch:=first|exact aa0|fail) only[go_sem,Ao,Am,e10]
     |true=>simp(maxSteps:=2000000) (disch:=first|exact aa0|fail) only[go_sem,Ao,Am,e11]
   | false=>
    cases AU with
    | true=>
     have hq:Ae (Ah 2 sc ⟨cnt,null,false,mn,mx,true,sum⟩)=AZ 3 (As sum):=by simp[Ah,A7,CJ,Ae,Put.bytes]
     rw[if_pos (by rw[d1];rfl),hq]
     rw[hq] at hl;have eb:=eb _ hl 2 aa1 aa1;have e10:=e10 _ hl 2;have e11:=e11 _ hl 2;rw[show((2:Nat):Int)=2 from rfl] at eb
     have po3:=a7 (num:=3) (v:=sum) aa1 aa1 i3;rw[show((3:Nat):Int)=3 from rfl] at po3
     simp only[Int.reduceToNat];simp(maxSteps:=2000000) (disch:=first|exact aa0|fail) only[go_sem,Ao,Am,f1,f2,u1,eb,hsc,d1,Sv.d,Sv.cs,po3,k0]
     cases null with
     |false=>simp(maxSteps:=2000000) (disch:=first|exact aa0|fail) only[go_sem,Ao,Am,e10]
     |true=>simp(maxSteps:=2000000) (disch:=first|exact aa0|fail) only[go_sem,Ao,Am,e11]
    | false=>
     rw[if_neg aa3];simp(maxSteps:=2000000) (disch:=first|exact aa0|fail) only[go_sem,Ao,Am,f1,f2,u1,d1,Sv.d,Sv.cs,k0]
     cases null with
     |false=>simp(maxSteps:=2000000) (disch:=first|exact aa0|fail) only[go_sem,Ao,Am,e00]
     |true=>simp(maxSteps:=2000000) (disch:=first|exact aa0|fail) only[go_sem,Ao,Am,e01]
 rw[k0,if_neg aa3] at hp;rcases aa5 (BV t.kind&&t.kind !=8) with k1|k1
 · rw[k1,if_pos rfl] at hp
   rw[hp] at hl h5 h9 ⊢;have d1:decide ((4:Int)>0)=true:=by simp
   cases has with
   | true=>
    cases AU with
    | true=>
     have hq:Ae (Ah 4 sc ⟨cnt,null,true,mn,mx,true,sum⟩)=ah 1 mn.b++ah 2 mx.b++AZ 3 (As sum):=by simp[Ah,A7,CJ,Ae,Put.bytes]
     rw[if_pos (by rw[d1];rfl),hq]
     rw[hq] at hl;have eb:=eb _ hl 4 aa1 aa1;have e10:=e10 _ hl 4;have e11:=e11 _ hl 4;rw[show((4:Nat):Int)=4 from rfl] at eb
     have pn1:=bo (num:=1) (v:=mn.b) aa1 aa1 aa1;rw[show((1:Nat):Int)=1 from rfl] at pn1
     have po2:=b0 (b:=ah 1 mn.b) (num:=2) (v:=mx.b) (abo (bl _ _) aa1) aa1 aa1 aa1;rw[show((2:Nat):Int)=2 from rfl] at po2
     change evL cfg EA 0 [.d .AB,.d (.int .i64 (1)),.d (txt mn.b)] []=_ at pn1;change evL cfg EA 0 [_,.d (.int .i64 (2)),.d (txt mx.b)] []=_ at po2;have po3:=bp (b:=ah 1 mn.b++ah 2 mx.b) (num:=3) (v:=sum) (by rw[abk];have:=bl 1 mn.b;have:=bl 2 mx.b;omega) aa1 aa1 i3
     rw[show((3:Nat):Int)=3 from rfl] at po3
     simp only[Int.reduceToNat];simp(maxSteps:=2000000) (disch:=first|exact aa0|fail) only[go_sem,Ao,Am,f1,f2,u1,eb,hsc,d1,Sv.d,Sv.cs,pn1,po2,po3,k0,k1]
     cases null with
     |false=>simp(maxSteps:=2000000) (disch:=first|exact aa0|fail) only[go_sem,Ao,Am,e10]
     |true=>simp(maxSteps:=2000000) (disch:=first|exact aa0|fail) only[go_sem,Ao,Am,e11]
    | false=>
     have hq:Ae (Ah 4 sc ⟨cnt,null,true,mn,mx,false,sum⟩)=ah 1 mn.b++ah 2 mx.b:=by simp[Ah,A7,CJ,Ae,Put.bytes]
     rw[if_pos (by rw[d1];rfl),hq]
     rw[hq] at hl;have eb:=eb _ hl 4 aa1 aa1;have e10:=e10 _ hl 4;have e11:=e11 _ hl 4;rw[show((4:Nat):Int)=4 from rfl] at eb
     have pn1:=bo (num:=1) (v:=mn.b) aa1 aa1 aa1;rw[show((1:Nat):Int)=1 from rfl] at pn1
     have po2:=b0 (b:=ah 1 mn.b) (num:=2) (v:=mx.b) (abo (bl _ _) aa1) aa1 aa1 aa1;rw[show((2:Nat):Int)=2 from rfl] at po2
     change evL cfg EA 0 [.d .AB,.d (.int .i64 (1)),.d (txt mn.b)] []=_ at pn1;change evL cfg EA 0 [_,.d (.int .i64 (2)),.d (txt mx.b)] []=_ at po2;simp only[Int.reduceToNat];simp(maxSteps:=2000000) (disch:=first|exact aa0|fail) only[go_sem,Ao,Am,f1,f2,u1,eb,hsc,d1,Sv.d,Sv.cs,pn1,po2,k0,k1]
     cases null with
     |false=>simp(maxSteps:=2000000) (disch:=first|exact aa0|fail) only[go_sem,Ao,Am,e10]
     |true=>simp(maxSteps:=2000000) (disch:=first|exact aa0|fail) only[go_sem,Ao,Am,e11]
   | false=>
    cases AU with
    | true=>
     have hq:Ae (Ah 4 sc ⟨cnt,null,false,mn,mx,true,sum⟩)=AZ 3 (As sum):=by simp[Ah,A7,CJ,Ae,Put.bytes]
     rw[if_pos (by rw[d1];rfl),hq]
     rw[hq] at hl;have eb:=eb _ hl 4 aa1 aa1;have e10:=e10 _ hl 4;have e11:=e11 _ hl 4;rw[show((4:Nat):Int)=4 from rfl] at eb
     have po3:=a7 (num:=3) (v:=sum) aa1 aa1 i3;rw[show((3:Nat):Int)=3 from rfl] at po3
     simp only[Int.reduceToNat];simp(maxSteps:=2000000) (disch:=first|exact aa0|fail) only[go_sem,Ao,Am,f1,f2,u1,eb,hsc,d1,Sv.d,Sv.cs,po3,k0,k1]
     cases null with
     |false=>simp(maxSteps:=2000000) (disch:=first|exact aa0|fail) only[go_sem,Ao,Am,e10]
     |true=>simp(maxSteps:=2000000) (disch:=first|exact aa0|fail) only[go_sem,Ao,Am,e11]
    | false=>
     rw[if_neg aa3];simp(maxSteps:=2000000) (disch:=first|exact aa0|fail) only[go_sem,Ao,Am,f1,f2,u1,d1,Sv.d,Sv.cs,k0,k1]
     cases null with
     |false=>simp(maxSteps:=2000000) (disch:=first|exact aa0|fail) only[go_sem,Ao,Am,e00]
     |true=>simp(maxSteps:=2000000) (disch:=first|exact aa0|fail) only[go_sem,Ao,Am,e01]
 rw[k1,if_neg aa3] at hp;rcases aa5 (t.kind==0) with k2|k2
 · rw[k2,if_pos rfl] at hp
   rw[hp] at hl h5 h9 ⊢;have d1:decide ((5:Int)>0)=true:=by simp
   cases has with
   | true=>
    cases AU with
    | true=>
     have hq:Ae (Ah 5 sc ⟨cnt,null,true,mn,mx,true,sum⟩)=ah 1 (Ai 10 sum.toNat):=by simp[Ah,A7,CJ,Ae,Put.bytes]
     rw[if_pos (by rw[d1];rfl),hq]
     rw[hq] at hl;have eb:=eb _ hl 5 aa1 aa1;have e10:=e10 _ hl 5;have e11:=e11 _ hl 5;rw[show((5:Nat):Int)=5 from rfl] at eb
     have hv:=h5 rfl rfl;have g1:=em (u:=sum.toNat) aa1;rw[abs hv.1] at g1;have vl:=bu 10 sum.toNat;have pn1:=bo (num:=1) (v:=Ai 10 sum.toNat) aa1 aa1 aa1;rw[show((1:Nat):Int)=1 from rfl] at pn1
     simp only[Int.reduceToNat];simp(maxSteps:=2000000) (disch:=first|exact aa0|fail) only[go_sem,Ao,Am,f1,f2,u1,eb,hsc,d1,Sv.d,Sv.cs,pn1,g1,jh,k0,k1,k2]
     cases null with
     |false=>simp(maxSteps:=2000000) (disch:=first|exact aa0|fail) only[go_sem,Ao,Am,e10]
     |true=>simp(maxSteps:=2000000) (disch:=first|exact aa0|fail) only[go_sem,Ao,Am,e11]
    | false=>
     have hq:Ae (Ah 5 sc ⟨cnt,null,true,mn,mx,false,sum⟩)=[]:=by simp[Ah,A7,CJ,Ae,Put.bytes]
     rw[if_pos (by rw[d1];rfl),hq]
     rw[hq] at hl;have eb:=eb _ hl 5 aa1 aa1;have e10:=e10 _ hl 5;have e11:=e11 _ hl 5;rw[show((5:Nat):Int)=5 from rfl] at eb
     simp only[Int.reduceToNat];rw[List.map_nil] at eb;simp(maxSteps:=2000000) (disch:=first|exact aa0|fail) only[go_sem,Ao,Am,f1,f2,u1,eb,hsc,d1,Sv.d,Sv.cs,k0,k1,k2]
     cases null with
     |false=>simp(maxSteps:=2000000) (disch:=first|exact aa0|fail) only[go_sem,Ao,Am,e10]
     |true=>simp(maxSteps:=2000000) (disch:=first|exact aa0|fail) only[go_sem,Ao,Am,e11]
   | false=>
    cases AU with
    | true=>
     have hq:Ae (Ah 5 sc ⟨cnt,null,false,mn,mx,true,sum⟩)=ah 1 (Ai 10 sum.toNat):=by simp[Ah,A7,CJ,Ae,Put.bytes]
     rw[if_pos (by rw[d1];rfl),hq]
     rw[hq] at hl;have eb:=eb _ hl 5 aa1 aa1;have e10:=e10 _ hl 5;have e11:=e11 _ hl 5;rw[show((5:Nat):Int)=5 from rfl] at eb
     have hv:=h5 rfl rfl;have g1:=em (u:=sum.toNat) aa1;rw[abs hv.1] at g1;have vl:=bu 10 sum.toNat;have pn1:=bo (num:=1) (v:=Ai 10 sum.toNat) aa1 aa1 aa1;rw[show((1:Nat):Int)=1 from rfl] at pn1
     simp only[Int.reduceToNat];simp(maxSteps:=2000000) (disch:=first|exact aa0|fail) only[go_sem,Ao,Am,f1,f2,u1,eb,hsc,d1,Sv.d,Sv.cs,pn1,g1,jh,k0,k1,k2]
     cases null with
     |false=>simp(maxSteps:=2000000) (disch:=first|exact aa0|fail) only[go_sem,Ao,Am,e10]
     |true=>simp(maxSteps:=2000000) (disch:=first|exact aa0|fail) only[go_sem,Ao,Am,e11]
    | false=>
     rw[if_neg aa3];simp(maxSteps:=2000000) (disch:=first|exact aa0|fail) only[go_sem,Ao,Am,f1,f2,u1,d1,Sv.d,Sv.cs,k0,k1,k2]
     cases null with
     |false=>simp(maxSteps:=2000000) (disch:=first|exact aa0|fail) only[go_sem,Ao,Am,e00]
     |true=>simp(maxSteps:=2000000) (disch:=first|exact aa0|fail) only[go_sem,Ao,Am,e01]
 rw[k2,if_neg aa3] at hp;rcases aa5 (t.kind==14) with k3|k3
 · rw[k3,if_pos rfl] at hp
   rw[hp] at hl h5 h9 ⊢;have d1:decide ((6:Int)>0)=true:=by simp
   cases has with
   | true=>
    cases AU with
    | true=>
     have hq:Ae (Ah 6 sc ⟨cnt,null,true,mn,mx,true,sum⟩)=ah 1 (Al mn.i sc)++ah 2 (Al mx.i sc)++ah 3 (Al sum sc):=by simp[Ah,A7,CJ,Ae,Put.bytes]
     rw[if_pos (by rw[d1];rfl),hq]
     rw[hq] at hl;have eb:=eb _ hl 6 aa1 aa1;have e10:=e10 _ hl 6;have e11:=e11 _ hl 6;rw[show((6:Nat):Int)=6 from rfl] at eb
     have g1:=cx i1 hs;have g2:=cx i2 hs;have t1:=bt mn.i sc;have t2:=bt mx.i sc;have pn1:=bo (num:=1) (v:=Al mn.i sc) aa1 aa1 aa1;rw[show((1:Nat):Int)=1 from rfl] at pn1
     have po2:=b0 (b:=ah 1 (Al mn.i sc)) (num:=2) (v:=Al mx.i sc) (abo (bl _ _) aa1) aa1 aa1 aa1;rw[show((2:Nat):Int)=2 from rfl] at po2
     have g3:=cx i3 hs;have t3:=bt sum sc;have po3:=b0 (b:=ah 1 (Al mn.i sc)++ah 2 (Al mx.i sc)) (num:=3) (v:=Al sum sc) (by rw[abk];have:=bl 1 (Al mn.i sc);have:=bl 2 (Al mx.i sc);omega) aa1 aa1 aa1
     rw[show((3:Nat):Int)=3 from rfl] at po3
     simp only[Int.reduceToNat];simp(maxSteps:=2000000) (disch:=first|exact aa0|fail) only[go_sem,Ao,Am,f1,f2,u1,eb,hsc,d1,Sv.d,Sv.cs,pn1,po2,g1,g2,g3,po3,k0,k1,k2,k3]
     cases null with
     |false=>simp(maxSteps:=2000000) (disch:=first|exact aa0|fail) only[go_sem,Ao,Am,e10]
     |true=>simp(maxSteps:=2000000) (disch:=first|exact aa0|fail) only[go_sem,Ao,Am,e11]
    | false=>
     have hq:Ae (Ah 6 sc ⟨cnt,null,true,mn,mx,false,sum⟩)=ah 1 (Al mn.i sc)++ah 2 (Al mx.i sc):=by simp[Ah,A7,CJ,Ae,Put.bytes]
     rw[if_pos (by rw[d1];rfl),hq]
     rw[hq] at hl;have eb:=eb _ hl 6 aa1 aa1;have e10:=e10 _ hl 6;have e11:=e11 _ hl 6;rw[show((6:Nat):Int)=6 from rfl] at eb
     have g1:=cx i1 hs;have g2:=cx i2 hs;have t1:=bt mn.i sc;have t2:=bt mx.i sc;have pn1:=bo (num:=1) (v:=Al mn.i sc) aa1 aa1 aa1;rw[show((1:Nat):Int)=1 from rfl] at pn1
     have po2:=b0 (b:=ah 1 (Al mn.i sc)) (num:=2) (v:=Al mx.i sc) (abo (bl _ _) aa1) aa1 aa1 aa1;rw[show((2:Nat):Int)=2 from rfl] at po2
     simp only[Int.reduceToNat];simp(maxSteps:=2000000) (disch:=first|exact aa0|fail) only[go_sem,Ao,Am,f1,f2,u1,eb,hsc,d1,Sv.d,Sv.cs,pn1,po2,g1,g2,k0,k1,k2,k3]
     cases null with
     |false=>simp(maxSteps:=2000000) (disch:=first|exact aa0|fail) only[go_sem,Ao,Am,e10]
     |true=>simp(maxSteps:=2000000) (disch:=first|exact aa0|fail) only[go_sem,Ao,Am,e11]
   | false=>
    cases AU with
    | true=>
     have hq:Ae (Ah 6 sc ⟨cnt,null,false,mn,mx,true,sum⟩)=ah 3 (Al sum sc):=by simp[Ah,A7,CJ,Ae,Put.bytes]
     rw[if_pos (by rw[d1];rfl),hq]
     rw[hq] at hl;have eb:=eb _ hl 6 aa1 aa1;have e10:=e10 _ hl 6;have e11:=e11 _ hl 6;rw[show((6:Nat):Int)=6 from rfl] at eb
     have g3:=cx i3 hs;have t3:=bt sum sc;have po3:=bo (num:=3) (v:=Al sum sc) aa1 aa1 aa1;rw[show((3:Nat):Int)=3 from rfl] at po3
     simp only[Int.reduceToNat];simp(maxSteps:=2000000) (disch:=first|exact aa0|fail) only[go_sem,Ao,Am,f1,f2,u1,eb,hsc,d1,Sv.d,Sv.cs,g3,po3,k0,k1,k2,k3]
     cases null with
     |false=>simp(maxSteps:=2000000) (disch:=first|exact aa0|fail) only[go_sem,Ao,Am,e10]
     |true=>simp(maxSteps:=2000000) (disch:=first|exact aa0|fail) only[go_sem,Ao,Am,e11]
    | false=>
     rw[if_neg aa3];simp(maxSteps:=2000000) (disch:=first|exact aa0|fail) only[go_sem,Ao,Am,f1,f2,u1,d1,Sv.d,Sv.cs,k0,k1,k2,k3]
     cases null with
     |false=>simp(maxSteps:=2000000) (disch:=first|exact aa0|fail) only[go_sem,Ao,Am,e00]
     |true=>simp(maxSteps:=2000000) (disch:=first|exact aa0|fail) only[go_sem,Ao,Am,e01]
 rw[k3,if_neg aa3] at hp;rcases aa5 (t.kind==15) with k4|k4
 · rw[k4,if_pos rfl] at hp
   rw[hp] at hl h5 h9 ⊢;have d1:decide ((7:Int)>0)=true:=by simp
   cases has with
   | true=>
    cases AU with
    | true=>
     have hq:Ae (Ah 7 sc ⟨cnt,null,true,mn,mx,true,sum⟩)=AZ 1 (As mn.i)++AZ 2 (As mx.i):=by simp[Ah,A7,CJ,Ae,Put.bytes]
     rw[if_pos (by rw[d1];rfl),hq]
     rw[hq] at hl;have eb:=eb _ hl 7 aa1 aa1;have e10:=e10 _ hl 7;have e11:=e11 _ hl 7;rw[show((7:Nat):Int)=7 from rfl] at eb
     have pn1:=a7 (num:=1) (v:=mn.i) aa1 aa1 i1;rw[show((1:Nat):Int)=1 from rfl] at pn1
     have po2:=bp (b:=AZ 1 (As mn.i)) (num:=2) (v:=mx.i) (abo (ul _ _) aa1) aa1 aa1 i2;rw[show((2:Nat):Int)=2 from rfl] at po2
     simp only[Int.reduceToNat];simp(maxSteps:=2000000) (disch:=first|exact aa0|fail) only[go_sem,Ao,Am,f1,f2,u1,eb,hsc,d1,Sv.d,Sv.cs,pn1,po2,k0,k1,k2,k3,k4]
     cases null with
     |false=>simp(maxSteps:=2000000) (disch:=first|exact aa0|fail) only[go_sem,Ao,Am,e10]
     |true=>simp(maxSteps:=2000000) (disch:=first|exact aa0|fail) only[go_sem,Ao,Am,e11]
    | false=>
     have hq:Ae (Ah 7 sc ⟨cnt,null,true,mn,mx,false,sum⟩)=AZ 1 (As mn.i)++AZ 2 (As mx.i):=by simp[Ah,A7,CJ,Ae,Put.bytes]
     rw[if_pos (by rw[d1];rfl),hq]
     rw[hq] at hl;have eb:=eb _ hl 7 aa1 aa1;have e10:=e10 _ hl 7;have e11:=e11 _ hl 7;rw[show((7:Nat):Int)=7 from rfl] at eb
     have pn1:=a7 (num:=1) (v:=mn.i) aa1 aa1 i1;rw[show((1:Nat):Int)=1 from rfl] at pn1
     have po2:=bp (b:=AZ 1 (As mn.i)) (num:=2) (v:=mx.i) (abo (ul _ _) aa1) aa1 aa1 i2;rw[show((2:Nat):Int)=2 from rfl] at po2
     simp only[Int.reduceToNat];simp(maxSteps:=2000000) (disch:=first|exact aa0|fail) only[go_sem,Ao,Am,f1,f2,u1,eb,hsc,d1,Sv.d,Sv.cs,pn1,po2,k0,k1,k2,k3,k4]
     cases null with
     |false=>simp(maxSteps:=2000000) (disch:=first|exact aa0|fail) only[go_sem,Ao,Am,e10]
     |true=>simp(maxSteps:=2000000) (disch:=first|exact aa0|fail) only[go_sem,Ao,Am,e11]
   | false=>
    cases AU with
    | true=>
     have hq:Ae (Ah 7 sc ⟨cnt,null,false,mn,mx,true,sum⟩)=[]:=by simp[Ah,A7,CJ,Ae,Put.bytes]
     rw[if_pos (by rw[d1];rfl),hq]
     rw[hq] at hl;have eb:=eb _ hl 7 aa1 aa1;have e10:=e10 _ hl 7;have e11:=e11 _ hl 7;rw[show((7:Nat):Int)=7 from rfl] at eb
     simp only[Int.reduceToNat];rw[List.map_nil] at eb;simp(maxSteps:=2000000) (disch:=first|exact aa0|fail) only[go_sem,Ao,Am,f1,f2,u1,eb,hsc,d1,Sv.d,Sv.cs,k0,k1,k2,k3,k4]
     cases null with
     |false=>simp(maxSteps:=2000000) (disch:=first|exact aa0|fail) only[go_sem,Ao,Am,e10]
     |true=>simp(maxSteps:=2000000) (disch:=first|exact aa0|fail) only[go_sem,Ao,Am,e11]
    | false=>
     rw[if_neg aa3];simp(maxSteps:=2000000) (disch:=first|exact aa0|fail) only[go_sem,Ao,Am,f1,f2,u1,d1,Sv.d,Sv.cs,k0,k1,k2,k3,k4]
     cases null with
     |false=>simp(maxSteps:=2000000) (disch:=first|exact aa0|fail) only[go_sem,Ao,Am,e00]
     |true=>simp(maxSteps:=2000000) (disch:=first|exact aa0|fail) only[go_sem,Ao,Am,e01]
 rw[k4,if_neg aa3] at hp;rcases aa5 (t.kind==8) with k5|k5
 · rw[k5,if_pos rfl] at hp
   rw[hp] at hl h5 h9 ⊢;have d1:decide ((8:Int)>0)=true:=by simp
   cases has with
   | true=>
    cases AU with
    | true=>
     have hq:Ae (Ah 8 sc ⟨cnt,null,true,mn,mx,true,sum⟩)=AZ 1 (As sum):=by simp[Ah,A7,CJ,Ae,Put.bytes]
     rw[if_pos (by rw[d1];rfl),hq]
     rw[hq] at hl;have eb:=eb _ hl 8 aa1 aa1;have e10:=e10 _ hl 8;have e11:=e11 _ hl 8;rw[show((8:Nat):Int)=8 from rfl] at eb
     have po3:=a7 (num:=1) (v:=sum) aa1 aa1 i3;rw[show((1:Nat):Int)=1 from rfl] at po3
     simp only[Int.reduceToNat];simp(maxSteps:=2000000) (disch:=first|exact aa0|fail) only[go_sem,Ao,Am,f1,f2,u1,eb,hsc,d1,Sv.d,Sv.cs,po3,k0,k1,k2,k3,k4,k5]
     cases null with
     |false=>simp(maxSteps:=2000000) (disch:=first|exact aa0|fail) only[go_sem,Ao,Am,e10]
     |true=>simp(maxSteps:=2000000) (disch:=first|exact aa0|fail) only[go_sem,Ao,Am,e11]
    | false=>
     have hq:Ae (Ah 8 sc ⟨cnt,null,true,mn,mx,false,sum⟩)=[]:=by simp[Ah,A7,CJ,Ae,Put.bytes]
     rw[if_pos (by rw[d1];rfl),hq]
     rw[hq] at hl;have eb:=eb _ hl 8 aa1 aa1;have e10:=e10 _ hl 8;have e11:=e11 _ hl 8;rw[show((8:Nat):Int)=8 from rfl] at eb
     simp only[Int.reduceToNat];rw[List.map_nil] at eb;simp(maxSteps:=2000000) (disch:=first|exact aa0|fail) only[go_sem,Ao,Am,f1,f2,u1,eb,hsc,d1,Sv.d,Sv.cs,k0,k1,k2,k3,k4,k5]
     cases null with
     |false=>simp(maxSteps:=2000000) (disch:=first|exact aa0|fail) only[go_sem,Ao,Am,e10]
     |true=>simp(maxSteps:=2000000) (disch:=first|exact aa0|fail) only[go_sem,Ao,Am,e11]
   | false=>
    cases AU with
    | true=>
     have hq:Ae (Ah 8 sc ⟨cnt,null,false,mn,mx,true,sum⟩)=AZ 1 (As sum):=by simp[Ah,A7,CJ,Ae,Put.bytes]
     rw[if_pos (by rw[d1];rfl),hq]
     rw[hq] at hl;have eb:=eb _ hl 8 aa1 aa1;have e10:=e10 _ hl 8;have e11:=e11 _ hl 8;rw[show((8:Nat):Int)=8 from rfl] at eb
     have po3:=a7 (num:=1) (v:=sum) aa1 aa1 i3;rw[show((1:Nat):Int)=1 from rfl] at po3
     simp only[Int.reduceToNat];simp(maxSteps:=2000000) (disch:=first|exact aa0|fail) only[go_sem,Ao,Am,f1,f2,u1,eb,hsc,d1,Sv.d,Sv.cs,po3,k0,k1,k2,k3,k4,k5]
     cases null with
     |false=>simp(maxSteps:=2000000) (disch:=first|exact aa0|fail) only[go_sem,Ao,Am,e10]
     |true=>simp(maxSteps:=2000000) (disch:=first|exact aa0|fail) only[go_sem,Ao,Am,e11]
    | false=>
     rw[if_neg aa3];simp(maxSteps:=2000000) (disch:=first|exact aa0|fail) only[go_sem,Ao,Am,f1,f2,u1,d1,Sv.d,Sv.cs,k0,k1,k2,k3,k4,k5]
     cases null with
     |false=>simp(maxSteps:=2000000) (disch:=first|exact aa0|fail) only[go_sem,Ao,Am,e00]
     |true=>simp(maxSteps:=2000000) (disch:=first|exact aa0|fail) only[go_sem,Ao,Am,e01]
 rw[k5,if_neg aa3] at hp;rcases aa5 (t.kind==9) with k6|k6
 · rw[k6,if_pos rfl] at hp
   rw[hp] at hl h5 h9 ⊢;have d1:decide ((9:Int)>0)=true:=by simp
   cases has with
   | true=>
    cases AU with
    | true=>
     have hq:Ae (Ah 9 sc ⟨cnt,null,true,mn,mx,true,sum⟩)=AZ 1 (As mn.i)++AZ 2 (As mx.i)++AZ 3 mn.n.toNat++AZ 4 mx.n.toNat:=by simp[Ah,A7,CJ,Ae,Put.bytes]
     rw[if_pos (by rw[d1];rfl),hq]
     rw[hq] at hl;have eb:=eb _ hl 9 aa1 aa1;have e10:=e10 _ hl 9;have e11:=e11 _ hl 9;rw[show((9:Nat):Int)=9 from rfl] at eb
     have pn1:=a7 (num:=1) (v:=mn.i) aa1 aa1 i1;rw[show((1:Nat):Int)=1 from rfl] at pn1
     have po2:=bp (b:=AZ 1 (As mn.i)) (num:=2) (v:=mx.i) (abo (ul _ _) aa1) aa1 aa1 i2;rw[show((2:Nat):Int)=2 from rfl] at po2
     obtain⟨⟨n1,n2⟩,n3,n4⟩:=h9 rfl rfl;have po3:=bq (b:=AZ 1 (As mn.i)++AZ 2 (As mx.i)) (num:=3) (v:=mn.n.toNat) (abo (sk 1 2 _ _) aa1) aa1 aa1 aa1;have po4:=bq (b:=AZ 1 (As mn.i)++AZ 2 (As mx.i)++AZ 3 mn.n.toNat) (num:=4) (v:=mx.n.toNat) (by rw[abk];have:=sk 1 2 (As mn.i) (As mx.i);have:=ul 3 mn.n.toNat;omega) aa1 aa1 aa1
     rw[abs n1,show((3:Nat):Int)=3 from rfl] at po3
     rw[abs n3,show((4:Nat):Int)=4 from rfl] at po4
     simp only[Int.reduceToNat];simp(maxSteps:=2000000) (disch:=first|exact aa0|fail) only[go_sem,Ao,Am,f1,f2,u1,eb,hsc,d1,Sv.d,Sv.cs,pn1,po2,po3,po4,jh,k0,k1,k2,k3,k4,k5,k6]
     cases null with
     |false=>simp(maxSteps:=2000000) (disch:=first|exact aa0|fail) only[go_sem,Ao,Am,e10]
     |true=>simp(maxSteps:=2000000) (disch:=first|exact aa0|fail) only[go_sem,Ao,Am,e11]
    | false=>
     have hq:Ae (Ah 9 sc ⟨cnt,null,true,mn,mx,false,sum⟩)=AZ 1 (As mn.i)++AZ 2 (As mx.i)++AZ 3 mn.n.toNat++AZ 4 mx.n.toNat:=by simp[Ah,A7,CJ,Ae,Put.bytes]
     rw[if_pos (by rw[d1];rfl),hq]
     rw[hq] at hl;have eb:=eb _ hl 9 aa1 aa1;have e10:=e10 _ hl 9;have e11:=e11 _ hl 9;rw[show((9:Nat):Int)=9 from rfl] at eb
     have pn1:=a7 (num:=1) (v:=mn.i) aa1 aa1 i1;rw[show((1:Nat):Int)=1 from rfl] at pn1
     have po2:=bp (b:=AZ 1 (As mn.i)) (num:=2) (v:=mx.i) (abo (ul _ _) aa1) aa1 aa1 i2;rw[show((2:Nat):Int)=2 from rfl] at po2
     obtain⟨⟨n1,n2⟩,n3,n4⟩:=h9 rfl rfl;have po3:=bq (b:=AZ 1 (As mn.i)++AZ 2 (As mx.i)) (num:=3) (v:=mn.n.toNat) (abo (sk 1 2 _ _) aa1) aa1 aa1 aa1;have po4:=bq (b:=AZ 1 (As mn.i)++AZ 2 (As mx.i)++AZ 3 mn.n.toNat) (num:=4) (v:=mx.n.toNat) (by rw[abk];have:=sk 1 2 (As mn.i) (As mx.i);have:=ul 3 mn.n.toNat;omega) aa1 aa1 aa1
     rw[abs n1,show((3:Nat):Int)=3 from rfl] at po3
     rw[abs n3,show((4:Nat):Int)=4 from rfl] at po4
     simp only[Int.reduceToNat];simp(maxSteps:=2000000) (disch:=first|exact aa0|fail) only[go_sem,Ao,Am,f1,f2,u1,eb,hsc,d1,Sv.d,Sv.cs,pn1,po2,po3,po4,jh,k0,k1,k2,k3,k4,k5,k6]
     cases null with
     |false=>simp(maxSteps:=2000000) (disch:=first|exact aa0|fail) only[go_sem,Ao,Am,e10]
     |true=>simp(maxSteps:=2000000) (disch:=first|exact aa0|fail) only[go_sem,Ao,Am,e11]
   | false=>
    cases AU with
    | true=>
     have hq:Ae (Ah 9 sc ⟨cnt,null,false,mn,mx,true,sum⟩)=[]:=by simp[Ah,A7,CJ,Ae,Put.bytes]
     rw[if_pos (by rw[d1];rfl),hq]
     rw[hq] at hl;have eb:=eb _ hl 9 aa1 aa1;have e10:=e10 _ hl 9;have e11:=e11 _ hl 9;rw[show((9:Nat):Int)=9 from rfl] at eb
     simp only[Int.reduceToNat];rw[List.map_nil] at eb;simp(maxSteps:=2000000) (disch:=first|exact aa0|fail) only[go_sem,Ao,Am,f1,f2,u1,eb,hsc,d1,Sv.d,Sv.cs,k0,k1,k2,k3,k4,k5,k6]
     cases null with
     |false=>simp(maxSteps:=2000000) (disch:=first|exact aa0|fail) only[go_sem,Ao,Am,e10]
     |true=>simp(maxSteps:=2000000) (disch:=first|exact aa0|fail) only[go_sem,Ao,Am,e11]
    | false=>
     rw[if_neg aa3];simp(maxSteps:=2000000) (disch:=first|exact aa0|fail) only[go_sem,Ao,Am,f1,f2,u1,d1,Sv.d,Sv.cs,k0,k1,k2,k3,k4,k5,k6]
     cases null with
     |false=>simp(maxSteps:=2000000) (disch:=first|exact aa0|fail) only[go_sem,Ao,Am,e00]
     |true=>simp(maxSteps:=2000000) (disch:=first|exact aa0|fail) only[go_sem,Ao,Am,e01]
 rw[k6,if_neg aa3] at hp;rw[hp,if_neg aa3];have d1:decide ((0:Int)>0)=false:=by simp
 simp(maxSteps:=2000000) (disch:=first|exact aa0|fail) only[go_sem,Ao,Am,f1,f2,u1,d1,Sv.d,Sv.cs,k0,k1,k2,k3,k4,k5,k6]
 cases null with
 |false=>simp(maxSteps:=2000000) (disch:=first|exact aa0|fail) only[go_sem,Ao,Am,e00]
 |true=>simp(maxSteps:=2000000) (disch:=first|exact aa0|fail) only[go_sem,Ao,Am,e01]
