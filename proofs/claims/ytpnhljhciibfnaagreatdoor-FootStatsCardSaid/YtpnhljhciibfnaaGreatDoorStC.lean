import Derived.Test.YtpnhljhciibfnaaGreatDoorPbE
import Derived.Test.YtpnhljhciibfnaaGreatDoorPbF
namespace Go.Proofs.YtpnhljhciibfnaaGreatDoor
open Go Go.Ev
set_option maxHeartbeats 4000000
def FA (o:Option Fld):V:= .d (.tup [.int .i64 (CG (o.getD Af).u),.bool o.isSome])
theorem bsj {fs:List Fld} (num A0:Nat) (hu:∀ f∈fs,f.u<18446744073709551616):((AA fs num A0).getD Af).u<18446744073709551616:=by
 unfold AA;cases h:fs.reverse.find? (isF num A0) with
 |none=>simp[Af]
 |some f=>exact hu f (by simpa using List.mem_of_find?_eq_some h)
theorem bgb (fs:List Fld) (num:Nat) (hn:fs.length≤1000000) (hu:∀ f∈fs,f.u<18446744073709551616):evL cfg TG 0 [.d (.sl (fs.map Fld.d)),.d (.int .i64 ((num:Int)))] []=some (FA (AA fs num 0),[]):=by
 rw[o_fv];have h:=oh fs num 0 hn;have hz:=aoc (bsj num 0 hu);rw[show((0:Nat):Int)=0 from rfl] at h
 simp only[IG,Fld.d] at h;unfold FA;generalize AA fs num 0=o at *;simp(disch:=first|exact aa0|fail) only[go_sem,X_fv,Zh,h,hz]
theorem fz (fs:List Fld) (num:Nat) (hn:fs.length≤1000000) (hu:∀ f∈fs,f.u<18446744073709551616):evL cfg Gx 0 [.d (.sl (fs.map Fld.d)),.d (.int .i64 ((num:Int)))] []=some (FA (AA fs num 0),[]):=by
 rw[o_dt];have h:=ae fs num hn;have hz:=aav (bsj num 0 hu);unfold Bh at h;unfold FA;generalize AA fs num 0=o at *;simp(disch:=first|exact aa0|fail) only[go_sem,X_dt,Z6,h,hz]
theorem ze {b:List UInt8} {num:Nat} {v:Int} (hb:b.length≤500000) (h1:1≤num) (h2:num≤536870911) (hv:inI v):
  evL cfg TK 0 [.d (.sl ((b).map AM)),.d (.int .i64 ((num:Int))),.d (.int .i64 (v))] []=some (.d (.sl ((b++AZ num (As v)).map AM)),[]):=by
 rw[o_fk];have hz:=aob hv;have hp:=dz (b:=b) (num:=num) (v:=As v) hb h1 h2 (v7 hv);simp(disch:=first|exact aa0|fail) only[go_sem,X_fk,Zn,hz,hp]
theorem a7 {num:Nat} {v:Int} (h1:1≤num) (h2:num≤536870911) (hv:inI v):
  evL cfg Er 0 [.d .AB,.d (.int .i64 ((num:Int))),.d (.int .i64 (v))] []=some (.own false 1 ((AZ num (As v)).map AM),[]):=by
 rw[o_cw];have hz:=rt hv;have hp:=kw (num:=num) (v:=As v) h1 h2 (v7 hv);simp(disch:=first|exact aa0|fail) only[go_sem,bP,UF,hz,hp]
theorem bp {b:List UInt8} {num:Nat} {v:Int} (hb:b.length≤500000) (h1:1≤num) (h2:num≤536870911) (hv:inI v):
  evL cfg Er 0 [.own false 1 (b.map AM),.d (.int .i64 ((num:Int))),.d (.int .i64 (v))] []=some (.own false 1 ((b++AZ num (As v)).map AM),[]):=by
 rw[show evL cfg Er 0 [.own false 1 (b.map AM),.d (.int .i64 ((num:Int))),.d (.int .i64 (v))] []=go bP [.c UF] ⟨[(0,.own false 1 (b.map AM)),(1,.d (.int .i64 ((num:Int)))),(2,.d (.int .i64 (v)))],[]⟩ from ab (fn:=Y5) rfl rfl _ _ _ rfl rfl]
 have hz:=rt hv;have hp:=bq (b:=b) (num:=num) (v:=As v) hb h1 h2 (v7 hv);simp(disch:=first|exact aa0|fail) only[go_sem,bP,UF,hz,hp]
theorem Wj {l:List UInt8} (p:Nat):(b7 l p).1.u<18446744073709551616:=by
 unfold b7;have hv:=fun q=>(s9 (l.drop q) 0 0 aa1 aa3).1
 have h8:=fun q=>bes ((l.drop q).take 8)
 have h4:=fun q=>bes ((l.drop q).take 4)
 have b8:∀ q,leN ((l.drop q).take 8)<18446744073709551616:=fun q=>ab3 (h8 q) (abo (acw aa1 (by rw[List.length_take];omega)) (by decide:256 ^ 8≤18446744073709551616))
 have b4:∀ q,leN ((l.drop q).take 4)<18446744073709551616:=fun q=>ab3 (h4 q) (abo (acw aa1 (by rw[List.length_take];omega)) (by decide:256 ^ 4≤18446744073709551616))
 simp only
 repeat' split
 all_goals first|exact hv _|exact b8 _|exact b4 _| (simp[Af])
theorem ben {l:List UInt8}:∀ (n p:Nat) (acc:List Fld),(∀ f∈acc,f.u<18446744073709551616)→∀ f∈(gq l n p acc).1,f.u<18446744073709551616
 |0,p,acc,h=>by simp[gq]
 | n+1,p,acc,h=>by
  rw[gq];split
  · split
    · simp
    · split
      · simp
      · refine ben n _ _ ?_
        intro f hf;rcases ab1.1 hf with hf|hf
        · exact h f hf
        · rw[ab9] at hf
          subst hf;exact Wj p
  · exact h
theorem zg (l:List UInt8):∀ f∈(aa l).1,f.u<18446744073709551616:=by
 unfold aa;split
 · simp
 · exact ben _ _ _ aa3
def Bi (b:List UInt8):Nat→Nat→List Nat→List Nat×Nat
 |0,_,acc=>(acc,0)
 |n+1,p,acc=>if p<b.length then(if(Ay 0 0 (b.drop p)).2.2=0 then Bi b n (p+(Ay 0 0 (b.drop p)).2.1) (acc++[(Ay 0 0 (b.drop p)).1]) else([],(Ay 0 0 (b.drop p)).2.2)) else(acc,0)
def ba (num:Nat):List Fld→List Nat→List Nat×Nat
 | [],acc=>(acc,0)
 |f::r,acc=>if f.num==num then(if f.A0==0 then ba num r (acc++[f.u]) else if f.A0==2 then(if(Bi f.b (f.b.length+1) 0 acc).2=0 then ba num r (Bi f.b (f.b.length+1) 0 acc).1 else([],(Bi f.b (f.b.length+1) 0 acc).2)) else ba num r acc) else ba num r acc
def uD (u:Nat):D:= .int .u64 (u:Int)
def o6 (r:List Nat×Nat):V:= .d (.tup [.sl (r.1.map uD),.int .i64 (r.2:Int)])
theorem Yj (acc:List Nat) (u:Nat):Dd 1 ((acc++[u]).map uD)= .own false 1 (acc.map uD++[.int .u64 (u:Int)]):=by
 rw[List.map_append,List.map_singleton,ug];rfl
theorem ue {b:List UInt8}:∀ (n p:Nat) (acc:List Nat),(Bi b n p acc).1.length≤acc.length+n
 |0,p,acc=>by simp[Bi]
 | n+1,p,acc=>by
  rw[Bi];split
  · split
    · have:=ue (b:=b) n (p+(Ay 0 0 (b.drop p)).2.1) (acc++[(Ay 0 0 (b.drop p)).1])
      simp only[abk,List.length_singleton] at this;omega
    · simp
  · simp
theorem uf {b:List UInt8}:∀ (n p:Nat) (acc:List Nat),(Bi b n p acc).2≠0→Bi b n p acc=([],(Bi b n p acc).2)
 |0,p,acc,h=>by simp[Bi] at h
 | n+1,p,acc,h=>by
  rw[Bi] at h ⊢;split
  · rename_i c
    rw[if_pos c] at h;split
    · rename_i e
      rw[if_pos e] at h;exact uf n _ _ h
    · rfl
  · rename_i c
    rw[if_neg c] at h;simp at h
theorem av9 {b:List UInt8} {p:Nat} (hp:p<b.length) (h:(Ay 0 0 (b.drop p)).2.2=0):0<(Ay 0 0 (b.drop p)).2.1∧p+(Ay 0 0 (b.drop p)).2.1≤b.length:=by
 have:=s9 (b.drop p) 0 0 aa1 aa3;have h2:=this.2.1;rw[List.length_drop] at h2;exact⟨this.2.2.2.2 h,by omega⟩
theorem pa (fs:List Fld) (num i:Nat) (x:Fld) (hi:i<fs.length) (hn:fs.length≤1000000) (h2:fs[i]? =some x) (hw:x.A0=2) (hx:x.b.length≤1000000) (K:List Kf):∀ (n p:Nat) (acc:List Nat),x.b.length-p<n→p≤x.b.length→acc.length+n≤100000000→
  go D0 (.c (.loop zz):: .b 2:: .b 1:: .c yl:: .c (.loop vr):: .b 0::K) ⟨[(0,.d (.sl (fs.map Fld.d))),(1,.d (.int .i64 ((num:Int)))),(6,Dd 1 (acc.map uD)),(7,.d (.int .i64 ((i:Int)))),(8,.d (.int .i64 ((p:Int))))],[]⟩=
    if(Bi x.b n p acc).2=0 then go D0 (.c (.loop vr):: .b 0::K) ⟨[(0,.d (.sl (fs.map Fld.d))),(1,.d (.int .i64 ((num:Int)))),(6,Dd 1 ((Bi x.b n p acc).1.map uD)),(7,.d (.int .i64 ((i:Int)+1)))],[]⟩ else some (o6 (Bi x.b n p acc),[])
 |0,p,acc,h,hp,ha=>by omega
 | n+1,p,acc,h,hp,ha=>by
  have e2:((x.A0:Int)==2)=true:=by rw[hw];rfl
  rw[Bi,go_loop];by_cases c:p<x.b.length
  · rw[if_pos c]
    have d_a:decide ((p:Int)<x.b.length)=true:=by simp<;>omega
    have hv:=l9 (b:=x.b) (p:=p) hp hx;by_cases e:(Ay 0 0 (x.b.drop p)).2.2=0
    · obtain⟨s1,s2⟩:=av9 c e
      have ih:=pa fs num i x hi hn h2 hw hx K n (p+(Ay 0 0 (x.b.drop p)).2.1) (acc++[(Ay 0 0 (x.b.drop p)).1]) aa1 s2 (by simp only[abk,List.length_singleton];omega)
      rw[if_pos e,← ih,Yj];unfold DX at hv;rw[e] at hv;generalize Ay 0 0 (x.b.drop p)=q at *;cases acc with
      | nil=>
       simp(disch:=first|exact aa0|fail) only[go_sem,D0,d_a,abl,aq,abt,h2,Option.map_some,Fld.d,e2,hv,Int.natCast_add,List.map_nil,bh,List.nil_append]
      | cons y acc=>
       simp only[List.length_cons] at ha;rw[List.map_cons];generalize uD y=w;simp(disch:=first|exact aa0|fail) only[go_sem,D0,d_a,abl,aq,abt,h2,Option.map_some,Fld.d,e2,hv,Int.natCast_add,bm,List.cons_append]
    · rw[if_neg e]
      simp only[if_neg e];have e3:(((Ay 0 0 (x.b.drop p)).2.2:Int) !=0)=true:=by simp;omega
      unfold DX at hv;generalize Ay 0 0 (x.b.drop p)=q at *;simp(disch:=first|exact aa0|fail) only[go_sem,D0,d_a,abl,aq,abt,h2,Option.map_some,Fld.d,e2,hv,cd,e3]
      rfl
  · rw[if_neg c]
    have d_a:decide ((p:Int)<x.b.length)=false:=by simp<;>omega
    simp only[if_true];simp(disch:=first|exact aa0|fail) only[go_sem,D0,d_a,abl,aq,abt,h2,Option.map_some,Fld.d,e2,cd]
def wt:List Fld→Nat
 | []=>0
 |f::r=>f.b.length+1+wt r
theorem l7 (fs:List Fld) (num:Nat) (hn:fs.length≤1000000) (hb:∀ f∈fs,f.b.length≤1000000):∀ (r:List Fld) (i:Nat) (acc:List Nat),fs.drop i=r→i≤fs.length→acc.length+wt r≤100000000→
  go D0 [.c (.loop vr),.b 0,.c (.seq yk .ret)] ⟨[(0,.d (.sl (fs.map Fld.d))),(1,.d (.int .i64 ((num:Int)))),(6,Dd 1 (acc.map uD)),(7,.d (.int .i64 ((i:Int))))],[]⟩=some (o6 (ba num r acc),[])
 | [],i,acc,hr,hi,ha=>by
  have:=de hr;have d_a:decide ((i:Int)<fs.length)=false:=by simp<;>omega
  rw[go_loop];cases acc with
  | nil=>
   simp(disch:=first|exact aa0|fail) only[go_sem,D0,d_a,abl,List.map_nil,bh]
   rfl
  | cons y acc=>
   simp(disch:=first|exact aa0|fail) only[go_sem,D0,d_a,abl,List.map_cons,bm]
   rfl
 | x::r,i,acc,hr,hi,ha=>by
  obtain⟨h1,h2,h3⟩:=ej hr;simp only[wt] at ha;have d_a:decide ((i:Int)<fs.length)=true:=by simp<;>omega
  have hx:=hb x (List.mem_of_getElem? h2);have e1:((x.num:Int) !=(num:Int))= !(x.num==num):=by rw[bne,FK]
  have e0:((x.A0:Int)==0)=(x.A0==0):=FK x.A0 0;have e2:((x.A0:Int)==2)=(x.A0==2):=FK x.A0 2;have ih:=fun acc' h=>l7 fs num hn hb r (i+1) acc' h3 h1 h
  simp only[show(((i+1:Nat)):Int)=(i:Int)+1 by omega] at ih
  rw[go_loop,ba];cases hh:x.num==num with
  | false=>
   rw[hh] at e1;simp only[aa8,if_false];rw[← ih acc aa1];simp(disch:=first|exact aa0|fail) only[go_sem,D0,cd,d_a,abl,aq,abt,h2,Option.map_some,Fld.d,e1]
  | true=>
   rw[hh] at e1;simp only[if_true];cases hw:x.A0==0 with
   | true=>
    have hw2:(x.A0==2)=false:=by simp at hw;simp[hw]
    rw[hw] at e0;rw[hw2] at e2;simp only[if_true];rw[← ih (acc++[x.u]) (by simp only[abk,List.length_singleton];omega),Yj]
    cases acc with
    | nil=>
     simp(disch:=first|exact aa0|fail) only[go_sem,D0,d_a,abl,aq,abt,h2,Option.map_some,Fld.d,e1,e0,List.map_nil,bh,List.nil_append]
     rw[go_loop];simp(disch:=first|exact aa0|fail) only[go_sem,D0,d_a,abl,aq,abt,h2,Option.map_some,Fld.d,e2]
    | cons y acc=>
     simp only[List.length_cons] at ha;rw[List.map_cons];generalize uD y=w;simp(disch:=first|exact aa0|fail) only[go_sem,D0,d_a,abl,aq,abt,h2,Option.map_some,Fld.d,e1,e0,bm,List.cons_append]
     rw[go_loop];simp(disch:=first|exact aa0|fail) only[go_sem,D0,d_a,abl,aq,abt,h2,Option.map_some,Fld.d,e2]
   | false=>
    rw[hw] at e0;simp only[aa8,if_false];cases hw2:x.A0==2 with
    | false=>
     rw[hw2] at e2;simp only[aa8,if_false];rw[← ih acc aa1];simp(disch:=first|exact aa0|fail) only[go_sem,D0,cd,d_a,abl,aq,abt,h2,Option.map_some,Fld.d,e1,e0]
     rw[go_loop];simp(disch:=first|exact aa0|fail) only[go_sem,D0,cd,d_a,abl,aq,abt,h2,Option.map_some,Fld.d,e2]
    | true=>
     have hin:=pa fs num i x aa1 hn h2 (by simpa using hw2) hx [.c (.seq yk .ret)] (x.b.length+1) 0 acc aa1 aa1 aa1
     have hl:=ue (b:=x.b) (x.b.length+1) 0 acc;rw[show((0:Nat):Int)=0 from rfl] at hin
     simp only[if_true];simp(disch:=first|exact aa0|fail) only[go_sem,D0,cd,d_a,abl,aq,abt,h2,Option.map_some,Fld.d,e1,e0]
     refine hin.trans ?_;by_cases e:(Bi x.b (x.b.length+1) 0 acc).2=0
     · rw[if_pos e,if_pos e,← ih _ aa1]
     · rw[if_neg e,if_neg e]
       rw[uf _ _ _ e]
theorem nu (fs:List Fld) (num:Nat) (hn:fs.length≤1000000) (hb:∀ f∈fs,f.b.length≤1000000) (hw:wt fs≤100000000):evL cfg T2 0 [.d (.sl (fs.map Fld.d)),.d (.int .i64 ((num:Int)))] []=some (o6 (ba num fs []),[]):=by
 rw[o_am];have h:=l7 fs num hn hb fs 0 [] rfl (acj _) (by simpa using hw)
 rw[List.map_nil,bh] at h;simp(disch:=first|exact aa0|fail) only[go_sem,D0,an]
 exact h
