import Derived.Test.YtmeohcmbohicoaaGreatDoorPbC
namespace Go.Proofs.YtmeohcmbohicoaaGreatDoor
open Go Go.Ev
set_option maxHeartbeats 4000000
theorem fieldM_b {l:List UInt8} (p:Nat):(cy l p).1.b.length≤l.length:=by
 unfold cy;simp only
 repeat' split
 all_goals simp[fld0]
 omega
theorem aes {l:List UInt8}:∀ (n p:Nat) (acc:List Fld),(∀ f∈acc,f.b.length≤l.length)→acc.length≤4096→(∀ f∈(i4 l n p acc).1,f.b.length≤l.length)∧(i4 l n p acc).1.length≤4096
 |0,p,acc,h,hl=>by simp[i4]
 | n+1,p,acc,h,hl=>by
  rw[i4];split
  · split
    · simp
    · split
      · simp
      · rename_i h2 _
        refine aes n _ _ ?_ (by simp;omega)
        intro f hf;rcases xb.1 hf with hf|hf
        · exact h f hf
        · rw[xe] at hf
          subst hf;exact fieldM_b p
  · exact⟨h,hl⟩
theorem aet (l:List UInt8):(∀ f∈(a5 l).1,f.b.length≤l.length)∧(a5 l).1.length≤4096:=by
 unfold a5;split
 · simp
 · exact aes _ _ _ vq vq
theorem af3 (es:List D):evL cfg n_b7 0 [.d (.sl es)] []=some (.clo n_cm [] [.d (.ptr (.sl es))],[]):=by
 refine az (n:=1) ?_;have hx:cfg.ext n_b7=some (xSeq n_cm):=rfl;simp only[evFn,hx,allD,Option.map_some,Option.bind_some,xSeq]
theorem a69:cfg.iter n_cm=some (r8 5):=rfl
theorem all_agg (fs:List Fld):(fs.map Fld.d).all (aggN 5)=true:=by
 rw[yc];intro d hd;obtain⟨f,_,rfl⟩:=xr.1 hd;rfl
def lastD (o:Option Fld):V:= .d (.tup [(o.getD fld0).d,.bool o.isSome])
def itD (l:List (Int×Fld)):List (List D):=l.map fun p=>[.int .i64 p.1,p.2.d]
def r6:Nat→List Fld→List (Int×Fld)
 |_,[]=>[]
 |i,x::r=>((i:Int),x)::r6 (i+1) r
theorem aff:∀ (i:Nat) (fs:List Fld),cz i (fs.map Fld.d)=itD (r6 i fs)
 |_,[]=>rfl
 |i,x::r=>by rw[List.map_cons,cz,aff (i+1) r];rfl
theorem rz:∀ (i:Nat) (fs:List Fld),(r6 i fs).map Prod.snd=fs
 |_,[]=>rfl
 |i,x::r=>by rw[r6,List.map_cons,rz (i+1) r]
theorem beqN (a b:Nat):((a:Int)==(b:Int))=(a==b):=by
 by_cases h:a=b
 · subst h;simp
 · have h2:¬ (a:Int)=b:=vn
   rw[wq.2 h,wq.2 h2]
theorem mz (num wire:Nat) (es:List D):∀ (l:List (Int×Fld)),
  goE X_bx [12,13] a8m a8l [(4,.ref 0 4 0),(5,.ref 0 5 0),(6,.ref 0 6 0),(7,.ref 0 7 0),(11,.clo n_cm [] [.d (.ptr (.sl es))])] [.b 0,.c (ax9.seq .ret)] (itD l)
   [(⟨0,4,0⟩,.d (.int .i64 ((num:Int)))),(⟨0,5,0⟩,.d (.int .i64 ((wire:Int)))),(⟨0,6,0⟩,.d (.int .i64 (0))),(⟨0,6,1⟩,.d (.int .i64 (0))),(⟨0,6,2⟩,.d (.int .u64 (0))),(⟨0,6,3⟩,.d .nilS),(⟨0,6,4⟩,.d (.int .i64 (0))),(⟨0,7,0⟩,.d (.bool (false)))]=
   some (lastD ((l.map Prod.snd).find? (isF num wire)),[])
 | []=>by
  simp(disch:=first|exact vm|fail) only[go_sem,X_bx,itD,List.map_nil]
  rfl
 | x::l=>by
  have ih:=mz num wire es l;unfold itD at ih ⊢;rw[List.map_cons,goE_cons];have e1:=beqN x.2.num num;have e2:=beqN x.2.wire wire;rw[List.map_cons,List.find?_cons];unfold isF;cases h1:x.2.num==num with
  | false=>
   rw[h1] at e1;simp(disch:=first|exact vm|fail) only[go_sem,X_bx,Fld.d,e1,Bool.false_and]
   exact ih
  | true=>
   rw[h1] at e1;cases h2:x.2.wire==wire with
   | false=>
    rw[h2] at e2;simp(disch:=first|exact vm|fail) only[go_sem,X_bx,Fld.d,e1,e2,Bool.true_and]
    exact ih
   | true=>
    rw[h2] at e2;simp(disch:=first|exact vm|fail) only[go_sem,X_bx,Fld.d,e1,e2,Bool.true_and]
    rfl
theorem aw3 (fs:List Fld) (hn:fs.length≤1000000):r8 5 [.ptr (.sl (fs.map Fld.d))]=some (itD (r6 0 fs).reverse):=by
 unfold r8;simp only;rw[if_pos ⟨all_agg fs,by simp;omega⟩,aff]
 unfold itD;rw[List.map_reverse]
theorem pd (fs:List Fld) (num wire:Nat) (hn:fs.length≤1000000):evL cfg n_bx 0 [.d (.sl (fs.map Fld.d)),.d (.int .i64 ((num:Int))),.d (.int .i64 ((wire:Int)))] []=some (lastD (lastM fs num wire),[]):=by
 rw[o_bx];have h:=mz num wire (fs.map Fld.d) (r6 0 fs).reverse;rw[List.map_reverse,rz] at h;have e:=aw3 fs hn;simp(disch:=first|exact vm|fail) only[go_sem,X_bx,c_bx,af3,a69,e]
 exact h
def uintD (o:Option Fld):V:= .d (.tup [.int .u64 ((o.getD fld0).u:Int),.bool o.isSome])
theorem j3 (fs:List Fld) (num:Nat) (hn:fs.length≤1000000):evL cfg n_cf 0 [.d (.sl (fs.map Fld.d)),.d (.int .i64 ((num:Int)))] []=some (uintD (lastM fs num 0),[]):=by
 rw[o_cf];have h:=pd fs num 0 hn;rw[show((0:Nat):Int)=0 from rfl] at h
 simp only[lastD,Fld.d] at h;unfold uintD;generalize lastM fs num 0=o at *;simp(disch:=first|exact vm|fail) only[go_sem,X_cf,c_cf,h]
theorem take5 (a b c d e:D):List.take 5 [a,b,c,d,e]=[a,b,c,d,e]:=rfl
theorem len5 (a b c d e:D):[a,b,c,d,e].length=5:=rfl
theorem am (k z:Nat) (l:List D):(ownZ z l).free 0 k=ownZ z l:=by cases l<;>rfl
theorem ab (z:Nat) (l:List D):(ownZ z l).home 0=ownZ z l:=by cases l<;>rfl
def textD (o:Option Fld):V:= .d (.tup [.sl ((o.getD fld0).b.map byteD),.bool o.isSome])
theorem j4 (fs:List Fld) (num:Nat) (hn:fs.length≤1000000) (hb:∀ f∈fs,f.b.length≤1000000):evL cfg n_cd 0 [.d (.sl (fs.map Fld.d)),.d (.int .i64 ((num:Int)))] []=some (textD (lastM fs num 2),[]):=by
 rw[o_cd];have h:=pd fs num 2 hn;rw[show((2:Nat):Int)=2 from rfl] at h
 simp only[lastD,Fld.d] at h;unfold textD;have hl:((lastM fs num 2).getD fld0).b.length≤1000000:=by
  cases ho:lastM fs num 2 with
  |none=>simp[fld0]
  |some f=>exact hb f (List.mem_reverse.1 (List.mem_of_find?_eq_some ho))
 generalize lastM fs num 2=o at *;have hcl:=fa (o.getD fld0).b hl;generalize((o.getD fld0).b)=q at *;cases q with
 | nil=>
  simp only[List.isEmpty_nil,if_true,List.map_nil] at hcl h;simp(disch:=first|exact vm|fail) only[go_sem,X_cd,c_cd,h,hcl]
 | cons x q=>
  simp only[List.isEmpty_cons,vv,if_false,List.map_cons] at hcl h;simp(disch:=first|exact vm|fail) only[go_sem,X_cd,c_cd,h,hcl]
def allM (fs:List Fld) (num:Nat):List Fld:=fs.filter (isF num 2)
def bD (f:Fld):D:= .sl (f.b.map byteD)
theorem ownB (acc:List Fld) (f:Fld):ownZ 1 ((acc++[f]).map bD)= .own false 1 (acc.map bD++[.sl (f.b.map byteD)]):=by
 rw[List.map_append,List.map_cons,List.map_nil,bt];rfl
theorem gj (fs:List Fld) (num:Nat) (hn:fs.length≤1000000) (hb:∀ f∈fs,f.b.length≤1000000):∀ (r:List Fld) (i:Nat) (acc:List Fld) (o:Option Fld),fs.drop i=r→acc.length≤i→i≤fs.length→
  go X_bv [.c (.loop a8n),.b 0,.c (ayd.seq .ret)] ⟨[(1,.d (.int .i64 ((num:Int)))),(5,ownZ 1 (acc.map bD)),(8,.d (.sl (fs.map Fld.d))),(9,.d (.int .i64 ((fs.length:Int)))),(10,.d (.int .i64 ((i:Int))))],boxF 7 o⟩=some (ownZ 1 ((acc++allM r num).map bD),[])
 | [],i,acc,o,hr,ha,hi=>by
  have:=br hr;have d_a:decide ((i:Int)<fs.length)=false:=by simp<;>omega
  rw[go_loop];cases acc with
  | nil=>
   simp(disch:=first|exact vm|fail) only[go_sem,X_bv,am,take5,len5,ai,ac,aj,d_a,List.map_nil,af]
   rfl
  | cons y acc=>
   simp(disch:=first|exact vm|fail) only[go_sem,X_bv,am,take5,len5,ai,ac,aj,d_a,List.map_cons,ak]
   rw[show allM [] num=[] from rfl,List.append_nil]
 | x::r,i,acc,o,hr,ha,hi=>by
  obtain⟨h1,h2,h3⟩:=cc hr;have d_a:decide ((i:Int)<fs.length)=true:=by simp<;>omega
  have e1:=beqN x.num num;have e2:((x.wire:Int)==2)=(x.wire==2):=beqN x.wire 2;unfold allM;rw[List.filter_cons];unfold isF;cases hh:x.num==num with
  | false=>
   rw[hh] at e1;have ih:=gj fs num hn hb r (i+1) acc (some x) h3 vn h1;rw[show(((i+1:Nat)):Int)=(i:Int)+1 by omega] at ih
   rw[go_loop];simp only[Bool.false_and,vv,if_false];unfold allM isF at ih;rw[← ih];simp(disch:=first|exact vm|fail) only[go_sem,X_bv,am,take5,len5,ai,ac,aj,ab,d_a,vu,co,x9,h2,Option.map_some,Fld.d,e1]
   rfl
  | true=>
   rw[hh] at e1;cases hw:x.wire==2 with
   | false=>
    rw[hw] at e2;have ih:=gj fs num hn hb r (i+1) acc (some x) h3 vn h1;rw[show(((i+1:Nat)):Int)=(i:Int)+1 by omega] at ih
    rw[go_loop];simp only[Bool.and_false,vv,if_false];unfold allM isF at ih;rw[← ih];simp(disch:=first|exact vm|fail) only[go_sem,X_bv,am,take5,len5,ai,ac,aj,ab,d_a,vu,co,x9,h2,Option.map_some,Fld.d,e1,e2]
    rfl
   | true=>
    rw[hw] at e2;have ih:=gj fs num hn hb r (i+1) (acc++[x]) (some x) h3 (by simp;omega) h1
    rw[show(((i+1:Nat)):Int)=(i:Int)+1 by omega,ownB,wh,List.singleton_append] at ih
    rw[go_loop];simp only[Bool.and_true,if_true];unfold allM isF at ih;rw[← ih];have hx:x∈fs:=List.mem_of_getElem? h2;have hcl:=fa x.b (hb x hx);cases acc with
    | nil=>
     cases hxb:x.b with
     | nil=>
      simp only[hxb,List.isEmpty_nil,if_true,List.map_nil] at hcl;simp(disch:=first|exact vm|fail) only[go_sem,X_bv,am,take5,len5,ai,ac,aj,d_a,vu,co,x9,h2,Option.map_some,Fld.d,e1,e2,List.map_nil,af,List.nil_append,hxb,hcl]
      simp only[boxF,hxb,List.map_nil]
     | cons c q=>
      simp only[hxb,List.isEmpty_cons,vv,if_false,List.map_cons] at hcl;simp(disch:=first|exact vm|fail) only[go_sem,X_bv,am,take5,len5,ai,ac,aj,d_a,vu,co,x9,h2,Option.map_some,Fld.d,e1,e2,List.map_nil,List.map_cons,af,List.nil_append,hxb,hcl]
      simp only[boxF,hxb,List.map_cons]
    | cons y acc=>
     simp only[List.length_cons] at ha;rw[List.map_cons];generalize bD y=w;cases hxb:x.b with
     | nil=>
      simp only[hxb,List.isEmpty_nil,if_true,List.map_nil] at hcl;simp(disch:=first|exact vm|fail) only[go_sem,X_bv,am,take5,len5,ai,ac,aj,d_a,vu,co,x9,h2,Option.map_some,Fld.d,e1,e2,ak,List.cons_append,List.map_nil,hxb,hcl]
      simp only[boxF,hxb,List.map_nil]
     | cons c q=>
      simp only[hxb,List.isEmpty_cons,vv,if_false,List.map_cons] at hcl;simp(disch:=first|exact vm|fail) only[go_sem,X_bv,am,take5,len5,ai,ac,aj,d_a,vu,co,x9,h2,Option.map_some,Fld.d,e1,e2,ak,List.cons_append,List.map_cons,hxb,hcl]
      simp only[boxF,hxb,List.map_cons]
theorem avz (fs:List Fld) (num:Nat) (hn:fs.length≤1000000) (hb:∀ f∈fs,f.b.length≤1000000):evL cfg n_bv 0 [.d (.sl (fs.map Fld.d)),.d (.int .i64 ((num:Int)))] []=some (ownZ 1 ((allM fs num).map bD),[]):=by
 rw[o_bv];have h:=gj fs num hn hb fs 0 [] none rfl (ww _) (ww _);rw[List.map_nil,af,lm] at h;simp(disch:=first|exact vm|fail) only[go_sem,X_bv,c_bv,vu]
 exact h
