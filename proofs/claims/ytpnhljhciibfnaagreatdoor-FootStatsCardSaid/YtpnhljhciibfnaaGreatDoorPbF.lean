import Derived.Test.YtpnhljhciibfnaaGreatDoorPbC
namespace Go.Proofs.YtpnhljhciibfnaaGreatDoor
open Go Go.Ev
set_option maxHeartbeats 4000000
theorem Wk {l:List UInt8} (p:Nat):(b7 l p).1.b.length≤l.length:=by
 unfold b7;simp only
 repeat' split
 all_goals simp[Af]
 omega
theorem an6 {l:List UInt8}:∀ (n p:Nat) (acc:List Fld),(∀ f∈acc,f.b.length≤l.length)→acc.length≤4096→(∀ f∈(gq l n p acc).1,f.b.length≤l.length)∧(gq l n p acc).1.length≤4096
 |0,p,acc,h,hl=>by simp[gq]
 | n+1,p,acc,h,hl=>by
  rw[gq];split
  · split
    · simp
    · split
      · simp
      · rename_i h2 _
        refine an6 n _ _ ?_ (by simp;omega)
        intro f hf;rcases ab1.1 hf with hf|hf
        · exact h f hf
        · rw[ab9] at hf
          subst hf;exact Wk p
  · exact⟨h,hl⟩
theorem en (l:List UInt8):(∀ f∈(aa l).1,f.b.length≤l.length)∧(aa l).1.length≤4096:=by
 unfold aa;split
 · simp
 · exact an6 _ _ _ aa3 aa3
theorem apl (es:List D):evL cfg TQ 0 [.d (.sl es)] []=some (.clo Rc [] [.d (.ptr (.sl es))],[]):=by
 refine ec (n:=1) ?_;have hx:cfg.ext TQ=some (UX Rc):=rfl;simp only[Bn,hx,CC,Option.map_some,Option.bind_some,UX]
theorem bsl:cfg.iter Rc=some (xg 5):=rfl
theorem bM (fs:List Fld):(fs.map Fld.d).all (oE 5)=true:=by
 rw[acd];intro d hd;obtain⟨f,_,rfl⟩:=ac0.1 hd;rfl
def IG (o:Option Fld):V:= .d (.tup [(o.getD Af).d,.bool o.isSome])
def itD (l:List (Int×Fld)):List (List D):=l.map fun p=>[.int .i64 p.1,p.2.d]
def xe:Nat→List Fld→List (Int×Fld)
 |_,[]=>[]
 |i,x::r=>((i:Int),x)::xe (i+1) r
theorem aos:∀ (i:Nat) (fs:List Fld),eq i (fs.map Fld.d)=itD (xe i fs)
 |_,[]=>rfl
 |i,x::r=>by rw[List.map_cons,eq,aos (i+1) r];rfl
theorem xd:∀ (i:Nat) (fs:List Fld),(xe i fs).map Prod.snd=fs
 |_,[]=>rfl
 |i,x::r=>by rw[xe,List.map_cons,xd (i+1) r]
theorem FK (a b:Nat):((a:Int)==(b:Int))=(a==b):=by
 by_cases h:a=b
 · subst h;simp
 · have h2:¬ (a:Int)=b:=aa1
   rw[aba.2 h,aba.2 h2]
theorem rx (num A0:Nat) (es:List D):∀ (l:List (Int×Fld)),
  goE SW [12,13] btr btq [(4,.ref 0 4 0),(5,.ref 0 5 0),(6,.ref 0 6 0),(7,.ref 0 7 0),(11,.clo Rc [] [.d (.ptr (.sl es))])] [.b 0,.c (bh4.seq .ret)] (itD l)
   [(⟨0,4,0⟩,.d (.int .i64 ((num:Int)))),(⟨0,5,0⟩,.d (.int .i64 ((A0:Int)))),(⟨0,6,0⟩,.d (.int .i64 (0))),(⟨0,6,1⟩,.d (.int .i64 (0))),(⟨0,6,2⟩,.d (.int .u64 (0))),(⟨0,6,3⟩,.d .AB),(⟨0,6,4⟩,.d (.int .i64 (0))),(⟨0,7,0⟩,.d (.bool (false)))]=
   some (IG ((l.map Prod.snd).find? (isF num A0)),[])
 | []=>by
  simp(disch:=first|exact aa0|fail) only[go_sem,SW,itD,List.map_nil]
  rfl
 | x::l=>by
  have ih:=rx num A0 es l;unfold itD at ih ⊢;rw[List.map_cons,WT];have e1:=FK x.2.num num;have e2:=FK x.2.A0 A0;rw[List.map_cons,List.find?_cons];unfold isF;cases h1:x.2.num==num with
  | false=>
   rw[h1] at e1;simp(disch:=first|exact aa0|fail) only[go_sem,SW,Fld.d,e1,Bool.false_and]
   exact ih
  | true=>
   rw[h1] at e1;cases h2:x.2.A0==A0 with
   | false=>
    rw[h2] at e2;simp(disch:=first|exact aa0|fail) only[go_sem,SW,Fld.d,e1,e2,Bool.true_and]
    exact ih
   | true=>
    rw[h2] at e2;simp(disch:=first|exact aa0|fail) only[go_sem,SW,Fld.d,e1,e2,Bool.true_and]
    rfl
theorem bg3 (fs:List Fld) (hn:fs.length≤1000000):xg 5 [.ptr (.sl (fs.map Fld.d))]=some (itD (xe 0 fs).reverse):=by
 unfold xg;simp only;rw[if_pos ⟨bM fs,by simp;omega⟩,aos]
 unfold itD;rw[List.map_reverse]
theorem oh (fs:List Fld) (num A0:Nat) (hn:fs.length≤1000000):evL cfg H4 0 [.d (.sl (fs.map Fld.d)),.d (.int .i64 ((num:Int))),.d (.int .i64 ((A0:Int)))] []=some (IG (AA fs num A0),[]):=by
 rw[o_ed];have h:=rx num A0 (fs.map Fld.d) (xe 0 fs).reverse;rw[List.map_reverse,xd] at h;have e:=bg3 fs hn;simp(disch:=first|exact aa0|fail) only[go_sem,SW,Zz,apl,bsl,e]
 exact h
def Bh (o:Option Fld):V:= .d (.tup [.int .u64 ((o.getD Af).u:Int),.bool o.isSome])
theorem b5 (fs:List Fld) (num:Nat) (hn:fs.length≤1000000):evL cfg Hy 0 [.d (.sl (fs.map Fld.d)),.d (.int .i64 ((num:Int)))] []=some (Bh (AA fs num 0),[]):=by
 rw[o_fp];have h:=oh fs num 0 hn;rw[show((0:Nat):Int)=0 from rfl] at h
 simp only[IG,Fld.d] at h;unfold Bh;generalize AA fs num 0=o at *;simp(disch:=first|exact aa0|fail) only[go_sem,X_fp,Zl,h]
def E8 (p:Option Fld) (fs:List Fld) (num A0:Nat):Option Fld:=match fs.reverse.find? (isF num A0) with
 |some f=>some f
 |none=>p
theorem w8 (p:Option Fld) (x:Fld) (fs:List Fld) (num A0:Nat):E8 p (x::fs) num A0=E8 (if isF num A0 x=true then some x else p) fs num A0:=by
 unfold E8;rw[List.reverse_cons,List.find?_append];cases fs.reverse.find? (isF num A0) with
 |some f=>rfl
 | none=>
  rw[Option.none_or,List.find?_cons];cases isF num A0 x<;>rfl
theorem nv (fs:List Fld) (num:Nat) (hn:fs.length≤1000000):∀ (r:List Fld) (i:Nat) (p:Option Fld),fs.drop i=r→i≤fs.length→
  go Sb [.c (.loop btx),.b 0,.c (aqa.seq .ret)] ⟨[(0,.d (.sl (fs.map Fld.d))),(1,.d (.int .i64 ((num:Int)))),(6,.d (.int .u64 (((p.getD Af).u:Int)))),(7,.d (.bool (p.isSome))),(8,.d (.int .i64 ((i:Int))))],[]⟩=some (Bh (E8 p r num 0),[])
 | [],i,p,hr,hi=>by
  have:=de hr;have d_a:decide ((i:Int)<fs.length)=false:=by simp<;>omega
  rw[go_loop];simp(disch:=first|exact aa0|fail) only[go_sem,Sb,d_a,abl]
  rfl
 | x::r,i,p,hr,hi=>by
  obtain⟨h1,h2,h3⟩:=ej hr;have d_a:decide ((i:Int)<fs.length)=true:=by simp<;>omega
  have e1:=FK x.num num;have e2:((x.A0:Int)==0)=(x.A0==0):=FK x.A0 0;have ih:=nv fs num hn r (i+1) (if isF num 0 x=true then some x else p) h3 h1
  rw[show(((i+1:Nat)):Int)=(i:Int)+1 by omega] at ih
  rw[w8,← ih];unfold isF;cases hh:x.num==num with
  | false=>
   rw[hh] at e1;rw[go_loop];simp(disch:=first|exact aa0|fail) only[go_sem,Sb,d_a,abl,aq,abt,h2,Option.map_some,Fld.d,e1,Bool.false_and,aa8,if_false]
  | true=>
   rw[hh] at e1;rw[go_loop];cases hw:x.A0==0 with
   | false=>
    rw[hw] at e2;simp(disch:=first|exact aa0|fail) only[go_sem,Sb,d_a,abl,aq,abt,h2,Option.map_some,Fld.d,e1,e2,Bool.true_and,aa8,if_false]
   | true=>
    rw[hw] at e2;simp(disch:=first|exact aa0|fail) only[go_sem,Sb,d_a,abl,aq,abt,h2,Option.map_some,Fld.d,e1,e2,Bool.true_and,if_true,Option.getD_some,Option.isSome_some]
theorem ae (fs:List Fld) (num:Nat) (hn:fs.length≤1000000):evL cfg Gy 0 [.d (.sl (fs.map Fld.d)),.d (.int .i64 ((num:Int)))] []=some (Bh (AA fs num 0),[]):=by
 rw[o_bg];have h:=nv fs num hn fs 0 none rfl (acj _);rw[show E8 none fs num 0=AA fs num 0 by unfold E8 AA;cases fs.reverse.find? (isF num 0)<;>rfl] at h
 simp(disch:=first|exact aa0|fail) only[go_sem,Sb,aU]
 exact h
theorem GG (a b c d e:D):List.take 5 [a,b,c,d,e]=[a,b,c,d,e]:=rfl
theorem SA (a b c d e:D):[a,b,c,d,e].length=5:=rfl
theorem i8 (k z:Nat) (l:List D):(Dd z l).free 0 k=Dd z l:=by cases l<;>rfl
theorem cd (z:Nat) (l:List D):(Dd z l).home 0=Dd z l:=by cases l<;>rfl
def Cf (o:Option Fld):V:= .d (.tup [.sl ((o.getD Af).b.map AM),.bool o.isSome])
theorem fk (fs:List Fld) (num:Nat) (hn:fs.length≤1000000) (hb:∀ f∈fs,f.b.length≤1000000):evL cfg Hz 0 [.d (.sl (fs.map Fld.d)),.d (.int .i64 ((num:Int)))] []=some (Cf (AA fs num 2),[]):=by
 rw[o_fo];have h:=oh fs num 2 hn;rw[show((2:Nat):Int)=2 from rfl] at h
 simp only[IG,Fld.d] at h;unfold Cf;have hl:((AA fs num 2).getD Af).b.length≤1000000:=by
  cases ho:AA fs num 2 with
  |none=>simp[Af]
  |some f=>exact hb f (List.mem_reverse.1 (List.mem_of_find?_eq_some ho))
 generalize AA fs num 2=o at *;have hcl:=jg (o.getD Af).b hl;generalize((o.getD Af).b)=q at *;cases q with
 | nil=>
  simp only[List.isEmpty_nil,if_true,List.map_nil] at hcl h;simp(disch:=first|exact aa0|fail) only[go_sem,oG,XH,h,hcl]
 | cons x q=>
  simp only[List.isEmpty_cons,aa8,if_false,List.map_cons] at hcl h;simp(disch:=first|exact aa0|fail) only[go_sem,oG,XH,h,hcl]
def S8:Option Fld→V
 |none=> .d .AB
 |some f=> .d (.sl ((f.b).map AM))
theorem uq (p:Option Fld):(S8 p).home 0=S8 p:=by cases p<;>rfl
theorem nx (fs:List Fld) (num:Nat) (hn:fs.length≤1000000):∀ (r:List Fld) (i:Nat) (p:Option Fld),fs.drop i=r→i≤fs.length→
  go Il [.c (.loop bty),.b 0,.c (aqb.seq .ret)] ⟨[(0,.d (.sl (fs.map Fld.d))),(1,.d (.int .i64 ((num:Int)))),(6,S8 p),(7,.d (.bool (p.isSome))),(8,.d (.int .i64 ((i:Int))))],[]⟩=some (Cf (E8 p r num 2),[])
 | [],i,p,hr,hi=>by
  have:=de hr;have d_a:decide ((i:Int)<fs.length)=false:=by simp<;>omega
  rw[go_loop];cases p with
  | none=>
   simp(disch:=first|exact aa0|fail) only[go_sem,Il,d_a,abl,S8]
   rfl
  | some f=>
   simp(disch:=first|exact aa0|fail) only[go_sem,Il,d_a,abl,S8]
   rfl
 | x::r,i,p,hr,hi=>by
  obtain⟨h1,h2,h3⟩:=ej hr;have d_a:decide ((i:Int)<fs.length)=true:=by simp<;>omega
  have e1:=FK x.num num;have e2:((x.A0:Int)==2)=(x.A0==2):=FK x.A0 2;have ih:=nx fs num hn r (i+1) (if isF num 2 x=true then some x else p) h3 h1
  rw[show(((i+1:Nat)):Int)=(i:Int)+1 by omega] at ih
  rw[w8,← ih];unfold isF;cases hh:x.num==num with
  | false=>
   rw[hh] at e1;rw[go_loop];simp(disch:=first|exact aa0|fail) only[go_sem,Il,uq,d_a,abl,aq,abt,h2,Option.map_some,Fld.d,e1,Bool.false_and,aa8,if_false]
  | true=>
   rw[hh] at e1;rw[go_loop];cases hw:x.A0==2 with
   | false=>
    rw[hw] at e2;simp(disch:=first|exact aa0|fail) only[go_sem,Il,uq,d_a,abl,aq,abt,h2,Option.map_some,Fld.d,e1,e2,Bool.true_and,aa8,if_false]
   | true=>
    rw[hw] at e2;simp(disch:=first|exact aa0|fail) only[go_sem,Il,uq,d_a,abl,aq,abt,h2,Option.map_some,Fld.d,e1,e2,Bool.true_and,if_true,S8,Option.isSome_some]
theorem dw (fs:List Fld) (num:Nat) (hn:fs.length≤1000000):evL cfg GX 0 [.d (.sl (fs.map Fld.d)),.d (.int .i64 ((num:Int)))] []=some (Cf (AA fs num 2),[]):=by
 rw[o_bb];have h:=nx fs num hn fs 0 none rfl (acj _);rw[show E8 none fs num 2=AA fs num 2 by unfold E8 AA;cases fs.reverse.find? (isF num 2)<;>rfl] at h
 simp(disch:=first|exact aa0|fail) only[go_sem,Il,aW]
 exact h
