import Derived.Test.YtlcnfnjdelmkdaaGreatDoorPbD
namespace Go.Proofs.YtlcnfnjdelmkdaaGreatDoor
open Go Go.Ev
set_option maxHeartbeats 4000000
def textD (o:Option Fld):V:= .d (.tup [.sl ((o.getD fld0).b.map byteD),.bool o.isSome])
theorem di (fs:List Fld) (num:Nat) (hn:fs.length≤1000000) (hb:∀ f∈fs,f.b.length≤1000000):evL cfg n_en 0 [.d (.sl (fs.map Fld.d)),.d (.int .i64 ((num:Int)))] []=some (textD (lastM fs num 2),[]):=by
 rw[o_en];have h:=m9 fs num 2 hn;rw[show((2:Nat):Int)=2 from rfl] at h
 simp only[lastD,Fld.d] at h;unfold textD;have hl:((lastM fs num 2).getD fld0).b.length≤1000000:=by
  cases ho:lastM fs num 2 with
  |none=>simp[fld0]
  |some f=>exact hb f (List.mem_reverse.1 (List.mem_of_find?_eq_some ho))
 generalize lastM fs num 2=o at *;have hcl:=dv (o.getD fld0).b hl;generalize((o.getD fld0).b)=q at *;cases q with
 | nil=>
  simp only[List.isEmpty_nil,if_true,List.map_nil] at hcl h;simp(disch:=first|exact y7|fail) only[go_sem,X_en,c_en,h,hcl]
 | cons x q=>
  simp only[List.isEmpty_cons,zh,if_false,List.map_cons] at hcl h;simp(disch:=first|exact y7|fail) only[go_sem,X_en,c_en,h,hcl]
def txtV:Option Fld→V
 |none=> .d .nilS
 |some f=> .d (.sl ((f.b).map byteD))
theorem sj (p:Option Fld):(txtV p).home 0=txtV p:=by cases p<;>rfl
theorem mu (fs:List Fld) (num:Nat) (hn:fs.length≤1000000):∀ (r:List Fld) (i:Nat) (p:Option Fld),fs.drop i=r→i≤fs.length→
  go X_bb [.c (.loop btx),.b 0,.c (ao5.seq .ret)] ⟨[(0,.d (.sl (fs.map Fld.d))),(1,.d (.int .i64 ((num:Int)))),(6,txtV p),(7,.d (.bool (p.isSome))),(8,.d (.int .i64 ((i:Int))))],[]⟩=some (textD (lastF p r num 2),[])
 | [],i,p,hr,hi=>by
  have:=bd hr;have d_a:decide ((i:Int)<fs.length)=false:=by simp<;>omega
  rw[go_loop];cases p with
  | none=>
   simp(disch:=first|exact y7|fail) only[go_sem,X_bb,d_a,zj,txtV]
   rfl
  | some f=>
   simp(disch:=first|exact y7|fail) only[go_sem,X_bb,d_a,zj,txtV]
   rfl
 | x::r,i,p,hr,hi=>by
  obtain⟨h1,h2,h3⟩:=cc hr;have d_a:decide ((i:Int)<fs.length)=true:=by simp<;>omega
  have e1:=beqN x.num num;have e2:((x.wire:Int)==2)=(x.wire==2):=beqN x.wire 2;have ih:=mu fs num hn r (i+1) (if isF num 2 x=true then some x else p) h3 h1
  rw[show(((i+1:Nat)):Int)=(i:Int)+1 by omega] at ih
  rw[u2,← ih];unfold isF;cases hh:x.num==num with
  | false=>
   rw[hh] at e1;rw[go_loop];simp(disch:=first|exact y7|fail) only[go_sem,X_bb,sj,d_a,zj,ae,zx,h2,Option.map_some,Fld.d,e1,Bool.false_and,zh,if_false]
  | true=>
   rw[hh] at e1;rw[go_loop];cases hw:x.wire==2 with
   | false=>
    rw[hw] at e2;simp(disch:=first|exact y7|fail) only[go_sem,X_bb,sj,d_a,zj,ae,zx,h2,Option.map_some,Fld.d,e1,e2,Bool.true_and,zh,if_false]
   | true=>
    rw[hw] at e2;simp(disch:=first|exact y7|fail) only[go_sem,X_bb,sj,d_a,zj,ae,zx,h2,Option.map_some,Fld.d,e1,e2,Bool.true_and,if_true,txtV,Option.isSome_some]
theorem ck (fs:List Fld) (num:Nat) (hn:fs.length≤1000000):evL cfg n_bb 0 [.d (.sl (fs.map Fld.d)),.d (.int .i64 ((num:Int)))] []=some (textD (lastM fs num 2),[]):=by
 rw[o_bb];have h:=mu fs num hn fs 0 none rfl (aaj _);rw[show lastF none fs num 2=lastM fs num 2 by unfold lastF lastM;cases fs.reverse.find? (isF num 2)<;>rfl] at h
 simp(disch:=first|exact y7|fail) only[go_sem,X_bb,c_bb]
 exact h
def allM (fs:List Fld) (num:Nat):List Fld:=fs.filter (isF num 2)
def bD (f:Fld):D:= .sl (f.b.map byteD)
theorem ownB (acc:List Fld) (f:Fld):ownZ 1 ((acc++[f]).map bD)= .own false 1 (acc.map bD++[.sl (f.b.map byteD)]):=by
 rw[List.map_append,List.map_cons,List.map_nil,k9];rfl
theorem fq (fs:List Fld) (num:Nat) (hn:fs.length≤1000000):∀ (r:List Fld) (i:Nat) (acc:List Fld),fs.drop i=r→acc.length≤i→i≤fs.length→
  go X_bw [.c (.loop bts),.b 0,.c (biq.seq .ret)] ⟨[(0,.d (.sl (fs.map Fld.d))),(1,.d (.int .i64 ((num:Int)))),(5,ownZ 1 (acc.map bD)),(6,.d (.int .i64 ((i:Int))))],[]⟩=some (ownZ 1 ((acc++allM r num).map bD),[])
 | [],i,acc,hr,ha,hi=>by
  have:=bd hr;have d_a:decide ((i:Int)<fs.length)=false:=by simp<;>omega
  rw[go_loop];cases acc with
  | nil=>
   simp(disch:=first|exact y7|fail) only[go_sem,X_bw,d_a,zj,List.map_nil,ai]
   rfl
  | cons y acc=>
   simp(disch:=first|exact y7|fail) only[go_sem,X_bw,d_a,zj,List.map_cons,am]
   rw[show allM [] num=[] from rfl,List.append_nil]
 | x::r,i,acc,hr,ha,hi=>by
  obtain⟨h1,h2,h3⟩:=cc hr;have d_a:decide ((i:Int)<fs.length)=true:=by simp<;>omega
  have e1:=beqN x.num num;have e2:((x.wire:Int)==2)=(x.wire==2):=beqN x.wire 2;unfold allM;rw[List.filter_cons];unfold isF;cases hh:x.num==num with
  | false=>
   rw[hh] at e1;have ih:=fq fs num hn r (i+1) acc h3 y8 h1;rw[show(((i+1:Nat)):Int)=(i:Int)+1 by omega] at ih
   rw[go_loop];simp only[Bool.false_and,zh,if_false];unfold allM isF at ih;rw[← ih];simp(disch:=first|exact y7|fail) only[go_sem,X_bw,ap,d_a,zj,ae,zx,h2,Option.map_some,Fld.d,e1]
  | true=>
   rw[hh] at e1;cases hw:x.wire==2 with
   | false=>
    rw[hw] at e2;have ih:=fq fs num hn r (i+1) acc h3 y8 h1;rw[show(((i+1:Nat)):Int)=(i:Int)+1 by omega] at ih
    rw[go_loop];simp only[Bool.and_false,zh,if_false];unfold allM isF at ih;rw[← ih];simp(disch:=first|exact y7|fail) only[go_sem,X_bw,ap,d_a,zj,ae,zx,h2,Option.map_some,Fld.d,e1,e2]
   | true=>
    rw[hw] at e2;have ih:=fq fs num hn r (i+1) (acc++[x]) h3 (by simp;omega) h1
    rw[show(((i+1:Nat)):Int)=(i:Int)+1 by omega,ownB,aad,List.singleton_append] at ih
    rw[go_loop];simp only[Bool.and_true,if_true];unfold allM isF at ih;rw[← ih];cases acc with
    | nil=>
     simp(disch:=first|exact y7|fail) only[go_sem,X_bw,d_a,zj,ae,zx,h2,Option.map_some,Fld.d,e1,e2,List.map_nil,ai,List.nil_append]
    | cons y acc=>
     simp only[List.length_cons] at ha;rw[List.map_cons];generalize bD y=w;simp(disch:=first|exact y7|fail) only[go_sem,X_bw,d_a,zj,ae,zx,h2,Option.map_some,Fld.d,e1,e2,am,List.cons_append]
theorem yu (fs:List Fld) (num:Nat) (hn:fs.length≤1000000):evL cfg n_bw 0 [.d (.sl (fs.map Fld.d)),.d (.int .i64 ((num:Int)))] []=some (ownZ 1 ((allM fs num).map bD),[]):=by
 rw[o_bw];have h:=fq fs num hn fs 0 [] rfl (aaj _) (aaj _);rw[List.map_nil,ai] at h;simp(disch:=first|exact y7|fail) only[go_sem,X_bw,c_bw]
 exact h
theorem jt (fs:List Fld) (num:Nat) (hn:fs.length≤1000000) (hb:∀ f∈fs,f.b.length≤1000000):∀ (r:List Fld) (i:Nat) (acc:List Fld) (o:Option Fld),fs.drop i=r→acc.length≤i→i≤fs.length→
  go X_dn [.c (.loop btq),.b 0,.c (bh5.seq .ret)] ⟨[(1,.d (.int .i64 ((num:Int)))),(5,ownZ 1 (acc.map bD)),(8,.d (.sl (fs.map Fld.d))),(9,.d (.int .i64 ((fs.length:Int)))),(10,.d (.int .i64 ((i:Int))))],boxF 7 o⟩=some (ownZ 1 ((acc++allM r num).map bD),[])
 | [],i,acc,o,hr,ha,hi=>by
  have:=bd hr;have d_a:decide ((i:Int)<fs.length)=false:=by simp<;>omega
  rw[go_loop];cases acc with
  | nil=>
   simp(disch:=first|exact y7|fail) only[go_sem,X_dn,bz,take5,len5,aj,af,ah,d_a,List.map_nil,ai]
   rfl
  | cons y acc=>
   simp(disch:=first|exact y7|fail) only[go_sem,X_dn,bz,take5,len5,aj,af,ah,d_a,List.map_cons,am]
   rw[show allM [] num=[] from rfl,List.append_nil]
 | x::r,i,acc,o,hr,ha,hi=>by
  obtain⟨h1,h2,h3⟩:=cc hr;have d_a:decide ((i:Int)<fs.length)=true:=by simp<;>omega
  have e1:=beqN x.num num;have e2:((x.wire:Int)==2)=(x.wire==2):=beqN x.wire 2;unfold allM;rw[List.filter_cons];unfold isF;cases hh:x.num==num with
  | false=>
   rw[hh] at e1;have ih:=jt fs num hn hb r (i+1) acc (some x) h3 y8 h1;rw[show(((i+1:Nat)):Int)=(i:Int)+1 by omega] at ih
   rw[go_loop];simp only[Bool.false_and,zh,if_false];unfold allM isF at ih;rw[← ih];simp(disch:=first|exact y7|fail) only[go_sem,X_dn,bz,take5,len5,aj,af,ah,ap,d_a,zj,ae,zx,h2,Option.map_some,Fld.d,e1]
   rfl
  | true=>
   rw[hh] at e1;cases hw:x.wire==2 with
   | false=>
    rw[hw] at e2;have ih:=jt fs num hn hb r (i+1) acc (some x) h3 y8 h1;rw[show(((i+1:Nat)):Int)=(i:Int)+1 by omega] at ih
    rw[go_loop];simp only[Bool.and_false,zh,if_false];unfold allM isF at ih;rw[← ih];simp(disch:=first|exact y7|fail) only[go_sem,X_dn,bz,take5,len5,aj,af,ah,ap,d_a,zj,ae,zx,h2,Option.map_some,Fld.d,e1,e2]
    rfl
   | true=>
    rw[hw] at e2;have ih:=jt fs num hn hb r (i+1) (acc++[x]) (some x) h3 (by simp;omega) h1
    rw[show(((i+1:Nat)):Int)=(i:Int)+1 by omega,ownB,aad,List.singleton_append] at ih
    rw[go_loop];simp only[Bool.and_true,if_true];unfold allM isF at ih;rw[← ih];have hx:x∈fs:=List.mem_of_getElem? h2;have hcl:=dv x.b (hb x hx);cases acc with
    | nil=>
     cases hxb:x.b with
     | nil=>
      simp only[hxb,List.isEmpty_nil,if_true,List.map_nil] at hcl;simp(disch:=first|exact y7|fail) only[go_sem,X_dn,bz,take5,len5,aj,af,ah,d_a,zj,ae,zx,h2,Option.map_some,Fld.d,e1,e2,List.map_nil,ai,List.nil_append,hxb,hcl]
      simp only[boxF,hxb,List.map_nil]
     | cons c q=>
      simp only[hxb,List.isEmpty_cons,zh,if_false,List.map_cons] at hcl;simp(disch:=first|exact y7|fail) only[go_sem,X_dn,bz,take5,len5,aj,af,ah,d_a,zj,ae,zx,h2,Option.map_some,Fld.d,e1,e2,List.map_nil,List.map_cons,ai,List.nil_append,hxb,hcl]
      simp only[boxF,hxb,List.map_cons]
    | cons y acc=>
     simp only[List.length_cons] at ha;rw[List.map_cons];generalize bD y=w;cases hxb:x.b with
     | nil=>
      simp only[hxb,List.isEmpty_nil,if_true,List.map_nil] at hcl;simp(disch:=first|exact y7|fail) only[go_sem,X_dn,bz,take5,len5,aj,af,ah,d_a,zj,ae,zx,h2,Option.map_some,Fld.d,e1,e2,am,List.cons_append,List.map_nil,hxb,hcl]
      simp only[boxF,hxb,List.map_nil]
     | cons c q=>
      simp only[hxb,List.isEmpty_cons,zh,if_false,List.map_cons] at hcl;simp(disch:=first|exact y7|fail) only[go_sem,X_dn,bz,take5,len5,aj,af,ah,d_a,zj,ae,zx,h2,Option.map_some,Fld.d,e1,e2,am,List.cons_append,List.map_cons,hxb,hcl]
      simp only[boxF,hxb,List.map_cons]
theorem bfx (fs:List Fld) (num:Nat) (hn:fs.length≤1000000) (hb:∀ f∈fs,f.b.length≤1000000):evL cfg n_dn 0 [.d (.sl (fs.map Fld.d)),.d (.int .i64 ((num:Int)))] []=some (ownZ 1 ((allM fs num).map bD),[]):=by
 rw[o_dn];have h:=jt fs num hn hb fs 0 [] none rfl (aaj _) (aaj _);rw[List.map_nil,ai,pc] at h;simp(disch:=first|exact y7|fail) only[go_sem,X_dn,c_dn,zj]
 exact h
