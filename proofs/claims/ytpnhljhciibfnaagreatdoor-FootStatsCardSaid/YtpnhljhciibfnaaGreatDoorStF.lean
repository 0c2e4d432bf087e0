import Derived.Test.YtpnhljhciibfnaaGreatDoorStC
import Derived.Test.YtpnhljhciibfnaaGreatDoorVaD
set_option linter.unusedSimpArgs false
namespace Go.Proofs.YtpnhljhciibfnaaGreatDoor
open Go Go.Ev
set_option maxHeartbeats 4000000
theorem ud (fs:List Fld) (num i:Nat) (x:Fld) (hi:i<fs.length) (hn:fs.length≤1000000) (hx:x.b.length≤1000000) (K:List Kf):∀ (n p:Nat) (acc:List Nat),x.b.length-p<n→p≤x.b.length→acc.length+n≤100000000→
  go Eh (.c (.loop zy):: .b 3:: .b 2:: .b 1:: .c yj:: .c (.loop vq):: .b 0::K) ⟨[(1,.d (.int .i64 ((num:Int)))),(6,Dd 1 (acc.map uD)),(8,.ref 0 8 0),(9,.d (.int .i64 ((p:Int)))),(13,.d (.sl (fs.map Fld.d))),(14,.d (.int .i64 ((fs.length:Int)))),(15,.d (.int .i64 ((i:Int))))],FJ 8 (some x)⟩=
    if(Bi x.b n p acc).2=0 then go Eh (.c (.loop vq):: .b 0::K) ⟨[(1,.d (.int .i64 ((num:Int)))),(6,Dd 1 ((Bi x.b n p acc).1.map uD)),(13,.d (.sl (fs.map Fld.d))),(14,.d (.int .i64 ((fs.length:Int)))),(15,.d (.int .i64 ((i:Int)+1)))],FJ 8 (some x)⟩ else some (o6 (Bi x.b n p acc),[])
 |0,p,acc,h,hp,ha=>by omega
 | n+1,p,acc,h,hp,ha=>by
  rw[Bi,go_loop];by_cases c:p<x.b.length
  · rw[if_pos c]
    have d_a:decide ((p:Int)<x.b.length)=true:=by simp<;>omega
    have hv:=mg (b:=x.b) (p:=p) hp hx;by_cases e:(Ay 0 0 (x.b.drop p)).2.2=0
    · obtain⟨s1,s2⟩:=av9 c e
      have ih:=ud fs num i x hi hn hx K n (p+(Ay 0 0 (x.b.drop p)).2.1) (acc++[(Ay 0 0 (x.b.drop p)).1]) aa1 s2 (by simp only[abk,List.length_singleton];omega)
      rw[if_pos e,← ih,Yj];unfold DX at hv;rw[e] at hv;generalize Ay 0 0 (x.b.drop p)=q at *;simp only[FJ];cases acc with
      | nil=>
       simp(disch:=first|exact aa0|fail) only[go_sem,Eh,d_a,abl,hv,Int.natCast_add,List.map_nil,bh,List.nil_append]
      | cons y acc=>
       simp only[List.length_cons] at ha;rw[List.map_cons];generalize uD y=w;simp(disch:=first|exact aa0|fail) only[go_sem,Eh,d_a,abl,hv,Int.natCast_add,bm,List.cons_append]
    · rw[if_neg e]
      simp only[if_neg e];have e3:(((Ay 0 0 (x.b.drop p)).2.2:Int) !=0)=true:=by simp;omega
      unfold DX at hv;generalize Ay 0 0 (x.b.drop p)=q at *;simp only[FJ];simp(disch:=first|exact aa0|fail) only[go_sem,Eh,d_a,abl,hv,cd,e3]
      rfl
  · rw[if_neg c]
    have d_a:decide ((p:Int)<x.b.length)=false:=by simp<;>omega
    simp only[if_true];simp only[FJ];simp(disch:=first|exact aa0|fail) only[go_sem,Eh,d_a,abl,cd]
theorem ph (fs:List Fld) (num:Nat) (hn:fs.length≤1000000) (hb:∀ f∈fs,f.b.length≤1000000):∀ (r:List Fld) (i:Nat) (acc:List Nat) (o:Option Fld),fs.drop i=r→i≤fs.length→acc.length+wt r≤100000000→
  go Eh [.c (.loop vq),.b 0,.c (.seq yi .ret)] ⟨[(1,.d (.int .i64 ((num:Int)))),(6,Dd 1 (acc.map uD)),(13,.d (.sl (fs.map Fld.d))),(14,.d (.int .i64 ((fs.length:Int)))),(15,.d (.int .i64 ((i:Int))))],FJ 8 o⟩=some (o6 (ba num r acc),[])
 | [],i,acc,o,hr,hi,ha=>by
  have:=de hr;have d_a:decide ((i:Int)<fs.length)=false:=by simp<;>omega
  rw[go_loop];cases acc with
  | nil=>
   simp(disch:=first|exact aa0|fail) only[go_sem,Eh,i8,GG,SA,ao,ag,aj,d_a,List.map_nil,bh]
   rfl
  | cons y acc=>
   simp(disch:=first|exact aa0|fail) only[go_sem,Eh,i8,GG,SA,ao,ag,aj,d_a,List.map_cons,bm]
   rfl
 | x::r,i,acc,o,hr,hi,ha=>by
  obtain⟨h1,h2,h3⟩:=ej hr;simp only[wt] at ha;have d_a:decide ((i:Int)<fs.length)=true:=by simp<;>omega
  have hx:=hb x (List.mem_of_getElem? h2);have e1:((x.num:Int) !=(num:Int))= !(x.num==num):=by rw[bne,FK]
  have e0:((x.A0:Int)==0)=(x.A0==0):=FK x.A0 0;have e2:((x.A0:Int)==2)=(x.A0==2):=FK x.A0 2;have ih:=fun acc' h=>ph fs num hn hb r (i+1) acc' (some x) h3 h1 h
  simp only[show(((i+1:Nat)):Int)=(i:Int)+1 by omega] at ih
  rw[go_loop,ba];cases hh:x.num==num with
  | false=>
   rw[hh] at e1;simp only[aa8,if_false];rw[← ih acc aa1];simp(disch:=first|exact aa0|fail) only[go_sem,Eh,i8,GG,SA,ao,ag,aj,cd,d_a,abl,aq,abt,h2,Option.map_some,Fld.d,e1]
   rfl
  | true=>
   rw[hh] at e1;simp only[if_true];cases hw:x.A0==0 with
   | true=>
    rw[hw] at e0;simp only[if_true];rw[← ih (acc++[x.u]) (by simp only[abk,List.length_singleton];omega),Yj]
    cases acc with
    | nil=>
     simp(disch:=first|exact aa0|fail) only[go_sem,Eh,i8,GG,SA,ao,ag,aj,d_a,abl,aq,abt,h2,Option.map_some,Fld.d,e1,e0,List.map_nil,bh,List.nil_append]
     rfl
    | cons y acc=>
     simp only[List.length_cons] at ha;rw[List.map_cons];generalize uD y=w;simp(disch:=first|exact aa0|fail) only[go_sem,Eh,i8,GG,SA,ao,ag,aj,d_a,abl,aq,abt,h2,Option.map_some,Fld.d,e1,e0,bm,List.cons_append]
     rfl
   | false=>
    rw[hw] at e0;simp only[aa8,if_false];cases hw2:x.A0==2 with
    | false=>
     rw[hw2] at e2;simp only[aa8,if_false];rw[← ih acc aa1];simp(disch:=first|exact aa0|fail) only[go_sem,Eh,i8,GG,SA,ao,ag,aj,cd,d_a,abl,aq,abt,h2,Option.map_some,Fld.d,e1,e0,e2]
     rfl
    | true=>
     rw[hw2] at e2;have hin:=ud fs num i x aa1 hn hx [.c (.seq yi .ret)] (x.b.length+1) 0 acc aa1 aa1 aa1;have hl:=ue (b:=x.b) (x.b.length+1) 0 acc;rw[show((0:Nat):Int)=0 from rfl] at hin
     simp only[if_true];simp(disch:=first|exact aa0|fail) only[go_sem,Eh,i8,GG,SA,ao,ag,aj,cd,d_a,abl,aq,abt,h2,Option.map_some,Fld.d,e1,e0,e2]
     refine hin.trans ?_;by_cases e:(Bi x.b (x.b.length+1) 0 acc).2=0
     · rw[if_pos e,if_pos e,← ih _ aa1]
     · rw[if_neg e,if_neg e]
       rw[uf _ _ _ e]
theorem an3 (fs:List Fld) (num:Nat) (hn:fs.length≤1000000) (hb:∀ f∈fs,f.b.length≤1000000) (hw:wt fs≤100000000):evL cfg Ts 0 [.d (.sl (fs.map Fld.d)),.d (.int .i64 ((num:Int)))] []=some (o6 (ba num fs []),[]):=by
 rw[o_bm];have h:=ph fs num hn hb fs 0 [] none rfl (acj _) (by simpa using hw)
 rw[List.map_nil,bh,vn] at h;simp(disch:=first|exact aa0|fail) only[go_sem,Eh,aT,abl]
 exact h
end Go.Proofs.YtpnhljhciibfnaaGreatDoor
namespace Go.Proofs.YtpnhljhciibfnaaGreatDoor
open Go Go.Ev
set_option maxHeartbeats 4000000
def AL (k:Int):Int:=
 if k==1||k==2||k==3||k==4 then 2 else if k==7||k==16||k==17 then 4 else if k==0 then 5 else if k==14 then 6 else if k==15 then 7 else if k==8 then 8 else if k==9 then 9 else 0
theorem ay (k:Int):evL cfg HX 0 [.d (.int .i64 (k))] []=some (.d (.int .i64 (AL k)),[]):=by
 rw[o_bc];unfold AL;simp(disch:=first|exact aa0|fail) only[go_sem,X_bc,aV]
 repeat' ((try rw[Aq])<;>split<;>rename_i hh<;>(try simp only[abh,abf,abb,abc] at hh)<;>(try simp(disch:=first|exact aa0|fail) only[*,go_sem]))
theorem am (k:Int):evL cfg Rs 0 [.d (.int .i64 (k))] []=some (.d (.bool (decide (k≥1)&&decide (k≤4))),[]):=by
 rw[o_d8];simp(disch:=first|exact aa0|fail) only[go_sem,X_d8,aF]
 repeat' ((try rw[Aq])<;>split<;>rename_i hh<;>(try simp only[abh,abf,abb,abc] at hh)<;>(try simp(disch:=first|exact aa0|fail) only[*,go_sem]))
theorem ai (k:Int):evL cfg Ro 0 [.d (.int .i64 (k))] []=some (.d (.bool (BV k&&k !=8)),[]):=by
 rw[o_dv];simp(disch:=first|exact aa0|fail) only[go_sem,X_dv,Z4,cq]
 repeat' ((try rw[Aq])<;>split<;>rename_i hh<;>(try simp only[abh,abf,abb,abc] at hh)<;>(try simp(disch:=first|exact aa0|fail) only[*,go_sem,cq]))
end Go.Proofs.YtpnhljhciibfnaaGreatDoor
namespace Go.Proofs.YtpnhljhciibfnaaGreatDoor
open Go Go.Ev
set_option maxHeartbeats 4000000
attribute [go_sem] yc
@[go_sem] theorem cel_beq (a b:Cel):(a==b)=decide (a=b):=by rw[ab0];simp
def lkO (e:List (Nat×V)):Option Nat→Option V
 |some k=>lk e k
 |none=>none
@[go_sem] theorem lkO_some (e:List (Nat×V)) (k:Nat):lkO e (some k)=lk e k:=rfl
@[go_sem high] theorem cY {X:Kx} {K:List Kf} {s:St} (e0:List (Nat×V)) (pre:Bool) (acc:List Rec) (un:List (Nat×Nat)) (o:AV) (r:List AV) (Ak:List Nat) (s':St):IK X e0 pre acc un o r Ak K s (some s')=if(Dk X.dep e0&&pre)=true then Fs X e0 pre acc un o r Ak K s (A2 (EN X.cfg s.get o.op) s.mem s'.mem) (lkO s'.env o.dst) o.dst else none:=by
 rw[bgm];cases o.dst<;>rfl
structure Sv where
 cnt:Int
 null:Bool
 has:Bool
 mn:Va
 mx:Va
 AU:Bool
 sum:Int
def Sv.cs (s:Sv):List D:=[.int .i64 s.cnt,.bool s.null,.bool s.has,.bool s.mn.null,.int .i64 s.mn.i,.int .i64 s.mn.n,txt s.mn.b,.sl (s.mn.kids.map Va.d),.bool s.mx.null,.int .i64 s.mx.i,.int .i64 s.mx.n,txt s.mx.b,.sl (s.mx.kids.map Va.d),.bool s.AU,.int .i64 s.sum]
def Sv.d (s:Sv):D:= .agg s.cs
def Aok (d:Nat) (ks:List Nat) (A:List (Cel×V)):Prop:=∀ p∈A,p.1.d=d∧p.1.k ∉ ks∧∃ x,p.2= .d x
theorem lkA {A:List (Cel×V)} {c:Cel} {v:V} (h:lk A c=some v) (r:List (Cel×V)):lk (A++r) c=some v:=by
 induction A with
 |nil=>simp[lk] at h
 | cons p A ih=>
  obtain⟨c',u⟩:=p;rw[List.cons_append];simp only[lk] at h ⊢;split at h
  · rename_i e;rw[if_pos e];exact h
  · rename_i e;rw[if_neg e];exact ih h
section
variable {d:Nat} {ks:List Nat} {A:List (Cel×V)} (h:Aok d ks A)
include h
theorem lkN (k o:Nat) (hk:k∈ks) (r:List (Cel×V)):lk (A++r) ⟨d,k,o⟩=lk r ⟨d,k,o⟩:=by
 induction A with
 |nil=>rfl
 | cons p A ih=>
  obtain⟨_,h1,_⟩:=h p aa3;obtain⟨c,v⟩:=p;rw[List.cons_append,lk,if_neg (fun e=>by rw[e] at h1;exact h1 hk)]
  exact ih fun q hq=>h q (by simp[hq])
theorem stN (k o:Nat) (hk:k∈ks) (v:V) (r:List (Cel×V)):st (A++r) ⟨d,k,o⟩ v=A++st r ⟨d,k,o⟩ v:=by
 induction A with
 |nil=>rfl
 | cons p A ih=>
  obtain⟨_,h1,_⟩:=h p aa3;obtain⟨c,u⟩:=p;rw[List.cons_append,st,if_neg (fun e=>by rw[e] at h1;exact h1 hk),ih fun q hq=>h q (by simp[hq])]
  rfl
theorem ct (e:Nat) (r:List (Cel×V)):BI e (A++r)=A++BI e r:=by
 induction A with
 |nil=>rfl
 | cons p A ih=>
  obtain⟨_,_,x,h2⟩:=h p aa3;obtain⟨c,u⟩:=p;simp only at h2;subst h2;rw[List.cons_append,BI,ih fun q hq=>h q (by simp[hq])]
  rfl
theorem ew (e:Nat) (he:d<e) (r:List (Cel×V)):Ap e (A++r)=A++Ap e r:=by
 induction A with
 |nil=>rfl
 | cons p A ih=>
  obtain⟨h1,_,x,h2⟩:=h p aa3;obtain⟨c,u⟩:=p;simp only at h1 h2;subst h2;rw[List.cons_append,Ap,if_pos aa1,ih fun q hq=>h q (by simp[hq])]
  rfl
theorem Fa (e:Nat) (he:d≤e) (r:List (Cel×V)):Ar e (A++r)=A++Ar e r:=by
 induction A with
 |nil=>rfl
 | cons p A ih=>
  obtain⟨h1,_,x,h2⟩:=h p aa3;obtain⟨c,u⟩:=p;simp only at h1;rw[List.cons_append,Ar,if_pos aa1,ih fun q hq=>h q (by simp[hq])]
  rfl
theorem Fg (e:Nat) (r:List (Cel×V)):(A++r).all (fun p=>p.2.BP e)=r.all (fun p=>p.2.BP e):=by
 induction A with
 |nil=>rfl
 | cons p A ih=>
  obtain⟨_,_,x,h2⟩:=h p aa3;obtain⟨c,u⟩:=p;simp only at h2;subst h2;rw[List.cons_append,List.all_cons,ih fun q hq=>h q (by simp[hq])]
  rfl
end
theorem mh {l:List Cel}:∀ {a b:List (Cel×V)} {u:List (Ev.Loc×V)},A2 (some l) a b=some u→∀ p∈u,∃ c:Cel,p.1=Ev.Loc.cell c∧l.contains c=true
 | [],[],u,h=>by cases h;simp
 | (c,v)::r,(c',v')::r',u,h=>by
  unfold A2 at h;split at h
  · simp only at h
    split at h
    · rename_i hc
      simp only[aa6] at h;obtain⟨u',h1,rfl⟩:=h;intro p hp;rcases ab1.1 hp with hp|hp
      · exact mh h1 p hp
      · rw[ab9] at hp
        subst hp;exact⟨c,rfl,hc⟩
    · split at h
      · simp only[aa6] at h
        obtain⟨u',h1,rfl⟩:=h;intro p hp;exact mh h1 p (acz.1 hp).1
      · cases h
  · cases h
 | [],_::_,u,h=>by simp[A2] at h
 |_::_,[],u,h=>by simp[A2] at h
theorem Sz {l:List Cel}:∀ {A:List (Cel×V)} (_:∀ p∈A,l.contains p.1=false) (r r':List (Cel×V)),A2 (some l) (A++r) (A++r')=A2 (some l) r r'
 | [],_,r,r'=>rfl
 | (c,v)::A,h,r,r'=>by
  have ih:=Sz (A:=A) (fun p hp=>h p (abw _ hp)) r r'
  have hc:=h (c,v) List.mem_cons_self;simp only at hc;rw[List.cons_append,List.cons_append,A2,if_pos rfl];simp only[hc,aa8,if_false,DA,if_true,ih];cases hm:A2 (some l) r r' with
  |none=>rfl
  | some u=>
   rw[Option.map_some]
   congr 1
   rw[List.filter_eq_self];intro p hp;obtain⟨c',e1,e2⟩:=mh hm p hp;rw[e1];simp only[Ev.Loc.cell.injEq,abb,aa7]
   rintro rfl
   rw[hc] at e2;cases e2
theorem dK {d:Nat} {ks:List Nat} {A:List (Cel×V)} (h:Aok d ks A) (k o:Nat) (hk:k∈ks):∀ p∈A,([⟨d,k,o⟩]:List Cel).contains p.1=false:=by
 intro p hp;obtain⟨_,h1,_⟩:=h p hp;rw[List.contains_cons,List.contains_nil,Bool.or_false];simp only[aba,ne_eq];intro e;rw[e] at h1;exact h1 hk
def bN:List UInt8→D
 | []=> .AB
 |c::r=> .sl ((c::r).map AM)
@[go_sem] theorem canon_bN (b:List UInt8):(bN b).canon= .sl (b.map AM):=by cases b<;>rfl
theorem bt2 {b x:List UInt8} (h:1≤x.length):D.sl ((b++x).map AM)=bN (b++x):=by
 cases hb:b++x with
 | nil=>
  have:=congrArg List.length hb;rw[abk,List.length_nil] at this;omega
 |cons c r=>rfl
theorem bt (v:Int) (s:Nat):(Al v s).length≤s+23:=by
 have h:=(rc v.natAbs).2;have hp:=sq (B2 20 v.natAbs) s;unfold Al HL t6;split<;>(simp only[List.length_cons,abk,List.length_take];split<;>simp only[List.length_nil,List.length_cons,List.length_drop]<;>omega)
def mB (A:List (Cel×V)) (b:List UInt8):List (Cel×V):=A++[(⟨0,5,0⟩,.d (bN b)),(⟨0,7,0⟩,.clo H2 [] [.ref 0 5 0])]
abbrev nothing:V:= .d (.tup [])
section
variable {A:List (Cel×V)} (hA:Aok 0 [5,7] A)
include hA
theorem rn (dp:Nat) {b:List UInt8} {num:Nat} {v:Int} (hb:b.length≤100000) (h1:1≤num) (h2:num≤536870911) (hv:inI v):
  evL cfg H0 (dp+1) [.d (.int .i64 ((num:Int))),.d (.int .i64 (v)),.ref 0 5 0] (mB A b)=some (nothing,mB A (b++AZ num (As v))):=by
 have h:=ze (b:=b) (num:=num) (v:=v) aa1 h1 h2 hv;have z1:=fun o=>lkN hA 5 o aa3
 have z2:=fun o=>stN hA 5 o aa3
 have z3:=ct hA;have z4:=ew hA (dp+1) (acs _);unfold mB;rw[← bt2 (bc _ _).1,e_fj (dp+1) _ _ rfl rfl];simp(disch:=first|exact aa0|fail) only[go_sem,X_fj,nS,h,z1,z2,z3,z4]
theorem rm (dp:Nat) {b v:List UInt8} {num:Nat} (hb:b.length≤100000) (h1:1≤num) (h2:num≤536870911) (hv:v.length≤100000):
  evL cfg H2 (dp+1) [.d (.int .i64 ((num:Int))),.d (.sl ((v).map AM)),.ref 0 5 0] (mB A b)=some (nothing,mB A (b++ah num v)):=by
 have h:=me (b:=b) (num:=num) (v:=v) aa1 h1 h2 aa1;have z1:=fun o=>lkN hA 5 o aa3
 have z2:=fun o=>stN hA 5 o aa3
 have z3:=ct hA;have z4:=ew hA (dp+1) (acs _);unfold mB;rw[← bt2 (cr _ _).1,e_fh (dp+1) _ _ rfl rfl];simp(disch:=first|exact aa0|fail) only[go_sem,X_fh,nU,h,z1,z2,z3,z4]
theorem rl (dp:Nat) {b:List UInt8} {num sc:Nat} {v:Int} (hb:b.length≤100000) (h1:1≤num) (h2:num≤536870911) (hv:inI v) (hs:sc≤18) (hk:lk A ⟨0,2,5⟩=some (.d (.int .i64 ((sc:Int))))):
  evL cfg H3 (dp+1) [.d (.int .i64 ((num:Int))),.d (.int .i64 (v)),.ref 0 7 0,.ref 0 2 0] (mB A b)=some (nothing,mB A (b++ah num (Al v sc))):=by
 have ht:=zr hv hs;have hl:(Al v sc).length≤100000:=abo (bt v sc) aa1;have h:=rm hA (dp+1) (b:=b) (num:=num) (v:=Al v sc) hb h1 h2 hl;have z0:=fun r=>lkA (r:=r) hk
 have z1:=fun o=>lkN hA 5 o aa3
 have y1:=fun o=>lkN hA 7 o aa3
 have z2:=fun o=>stN hA 5 o aa3
 have z3:=ct hA;have z4:=ew hA (dp+1) (acs _);have z5:=Fa hA (dp+1) aa1;have z6:=Fg hA;have z7:=Sz (dK hA 5 0 aa3);unfold mB at h ⊢;rw[e_fc (dp+1) _ _ rfl rfl];simp(maxSteps:=2000000) (disch:=first|exact aa0|fail) only[go_sem,X_fc,nV,ht,h,z0,z1,y1,z2,z3,z4,z5,z6,z7,List.all_cons,List.all_nil]
theorem bg2 (dp:Nat) {b:List UInt8} {num u:Nat} (hb:b.length≤100000) (h1:1≤num) (h2:num≤536870911) (hu:u≤1000000):
  evL cfg TL (dp+1) [.d (.int .i64 ((num:Int))),.d (.int .i64 ((u:Int))),.ref 0 7 0] (mB A b)=some (nothing,mB A (b++ah num (Ai 10 u))):=by
 have ht:=eu (b:=[]) (u:=u) aa3 aa1;simp only[List.map_nil,List.nil_append] at ht;have h:=rm hA (dp+1) (b:=b) (num:=num) (v:=Ai 10 u) hb h1 h2 (abo (bu 10 u) aa4);have z1:=fun o=>lkN hA 5 o aa3
 have y1:=fun o=>lkN hA 7 o aa3
 have z2:=fun o=>stN hA 5 o aa3
 have z3:=ct hA;have z4:=ew hA (dp+1) (acs _);have z5:=Fa hA (dp+1) aa1;have z6:=Fg hA;have z7:=Sz (dK hA 5 0 aa3);unfold mB at h ⊢;rw[e_fi (dp+1) _ _ rfl rfl];simp(maxSteps:=2000000) (disch:=first|exact aa0|fail) only[go_sem,X_fi,nT,ht,h,z1,y1,z2,z3,z4,z5,z6,z7,List.all_cons,List.all_nil]
theorem xv (dp:Nat) (f:FuncId) (k o:Nat) (cp:List V) (hcp:cp.all V.Ad=true) {b b1 b2:List UInt8} {has:Bool} {p q:Int}
  (hh:lk A ⟨0,3,2⟩=some (.d (.bool (has)))) (hp:lk A ⟨0,3,4⟩=some (.d (.int .i64 (p)))) (hq:lk A ⟨0,3,9⟩=some (.d (.int .i64 (q)))) (hup:V.CI (dp+1+1) cp=true)
  (h1:has=true→evL cfg f (dp+1+1) (.d (.int .i64 (1)):: .d (.int .i64 (p)):: .ref 0 k o::cp) (mB A b)=some (nothing,mB A b1)) (h2:has=true→evL cfg f (dp+1+1) (.d (.int .i64 (2)):: .d (.int .i64 (q)):: .ref 0 k o::cp) (mB A b1)=some (nothing,mB A b2)):
  evL cfg TS (dp+1) [.clo f [] (.ref 0 k o::cp),.ref 0 3 0] (mB A b)=some (nothing,mB A (if has=true then b2 else b)):=by
 have z0:=fun r=>lkA (r:=r) hh
 have x0:=fun r=>lkA (r:=r) hp
 have w0:=fun r=>lkA (r:=r) hq
 have z3:=ct hA;have z4:=ew hA (dp+1) (acs _);have z5:=Fa hA (dp+1) aa1;have z6:=Fg hA;unfold mB at h1 h2 ⊢;rw[e_em (dp+1) _ _ rfl rfl];cases has with
 |false=>simp(disch:=first|exact aa0|fail) only[go_sem,X_em,Zv,z0,z3,z4,z5,z6,List.all_cons,List.all_nil,hcp,hup]
 | true=>
  have h1:=h1 rfl;have h2:=h2 rfl;simp(disch:=first|exact aa0|fail) only[go_sem,X_em,Zv,h1,h2,z0,x0,w0,z3,z4,z5,z6,List.all_cons,List.all_nil,hcp,hup,List.all_append]
theorem rk (dp:Nat) (f:FuncId) (k o:Nat) (cp:List V) (hcp:cp.all V.Ad=true) {num:Nat} {b b1:List UInt8} {AU:Bool} {p:Int}
  (hh:lk A ⟨0,3,13⟩=some (.d (.bool (AU)))) (hp:lk A ⟨0,3,14⟩=some (.d (.int .i64 (p)))) (hup:V.CI (dp+1+1) cp=true)
  (h1:AU=true→evL cfg f (dp+1+1) (.d (.int .i64 ((num:Int))):: .d (.int .i64 (p)):: .ref 0 k o::cp) (mB A b)=some (nothing,mB A b1)):
  evL cfg Rk (dp+1) [.d (.int .i64 ((num:Int))),.clo f [] (.ref 0 k o::cp),.ref 0 3 0] (mB A b)=some (nothing,mB A (if AU=true then b1 else b)):=by
 have z0:=fun r=>lkA (r:=r) hh
 have x0:=fun r=>lkA (r:=r) hp
 have z3:=ct hA;have z4:=ew hA (dp+1) (acs _);have z5:=Fa hA (dp+1) aa1;have z6:=Fg hA;unfold mB at h1 ⊢;rw[e_ez (dp+1) _ _ rfl rfl];cases AU with
 |false=>simp(disch:=first|exact aa0|fail) only[go_sem,X_ez,Zs,z0,z3,z4,z5,z6,List.all_cons,List.all_nil,hcp,hup]
 | true=>
  have h1:=h1 rfl;simp(disch:=first|exact aa0|fail) only[go_sem,X_ez,Zs,h1,z0,x0,z3,z4,z5,z6,List.all_cons,List.all_nil,hcp,hup,List.all_append]
end
