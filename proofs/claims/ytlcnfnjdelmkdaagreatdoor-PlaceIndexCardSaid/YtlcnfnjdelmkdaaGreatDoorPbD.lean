import Derived.Test.YtlcnfnjdelmkdaaGreatDoorPbB
namespace Go.Proofs.YtlcnfnjdelmkdaaGreatDoor
open Go Go.Ev
set_option maxHeartbeats 4000000
theorem vl {l:List UInt8} {p:Nat} (h:(b0 l p).2.2=0) (hp:p≤l.length):1≤(b0 l p).2.1∧p+(b0 l p).2.1≤l.length:=by
 have h1:=fun h=>vy (l:=l) (p:=p) h hp
 unfold b0 at h ⊢;simp only at h ⊢;by_cases he:(varM 0 0 (l.drop p)).2.2≠0
 · rw[if_pos he] at h;exact absurd h he
 rw[if_neg he] at h ⊢;obtain⟨_,a2,a3,_⟩:=h1 (Decidable.not_not.1 he);generalize varM 0 0 (l.drop p)=k at *;obtain⟨k1,n,e⟩:=k;simp only at *;by_cases hq:k1 / 8<1∨k1 / 8>536870911
 · rw[if_pos hq] at h;exact absurd h zb
 rw[if_neg hq] at h ⊢;have h2:=fun h=>vy (l:=l) (p:=p+n) h a3
 generalize varM 0 0 (l.drop (p+n))=v at *;obtain⟨v1,m,e2⟩:=v;simp only at *;by_cases w0:k1 % 8=0
 · rw[if_pos w0] at h ⊢
   by_cases hz:e2≠0
   · rw[if_pos hz] at h;exact absurd h hz
   rw[if_neg hz];obtain⟨_,b2,b3,_⟩:=h2 (Decidable.not_not.1 hz);simp only;omega
 rw[if_neg w0] at h ⊢;by_cases w2:k1 % 8=2
 · rw[if_pos w2] at h ⊢
   by_cases hz:e2≠0
   · rw[if_pos hz] at h;exact absurd h hz
   rw[if_neg hz] at h ⊢;obtain⟨_,b2,b3,_⟩:=h2 (Decidable.not_not.1 hz);by_cases hs:v1>l.length-p-(n+m)
   · rw[if_pos hs] at h;exact absurd h zb
   rw[if_neg hs];simp only;omega
 rw[if_neg w2] at h ⊢;by_cases w1:k1 % 8=1
 · rw[if_pos w1] at h ⊢
   by_cases hs:8>l.length-p-n
   · rw[if_pos hs] at h;exact absurd h zb
   rw[if_neg hs];simp only;omega
 rw[if_neg w1] at h ⊢;by_cases w5:k1 % 8=5
 · rw[if_pos w5] at h ⊢
   by_cases hs:4>l.length-p-n
   · rw[if_pos hs] at h;exact absurd h zb
   rw[if_neg hs];simp only;omega
 rw[if_neg w5] at h;exact absurd h zb
def cd (r:List Fld×Nat):V:= .d (.tup [.sl (r.1.map Fld.d),.int .i64 (r.2:Int)])
def ownZ (z:Nat) (acc:List D):V:=if acc.isEmpty then .d .nilS else .own false z acc
theorem ai (z:Nat):ownZ z []= .d .nilS:=rfl
theorem am (z:Nat) (d:D) (r:List D):ownZ z (d::r)= .own false z (d::r):=rfl
theorem k9 (z:Nat) (r:List D) (d:D):ownZ z (r++[d])= .own false z (r++[d]):=by cases r<;>rfl
theorem ownF (acc:List Fld) (f:Fld):ownZ 5 ((acc++[f]).map Fld.d)= .own false 5 (acc.map Fld.d++[f.d]):=by
 rw[List.map_append,List.map_cons,List.map_nil,k9]
def boxF (k:Nat):Option Fld→List (Cel×V)
 |none=>[]
 |some f=>[(⟨0,k,0⟩,.d (.int .i64 ((f.num:Int)))),(⟨0,k,1⟩,.d (.int .i64 ((f.wire:Int)))),(⟨0,k,2⟩,.d (.int .u64 ((f.u:Int)))),(⟨0,k,3⟩,.d (.sl ((f.b).map byteD))),(⟨0,k,4⟩,.d (.int .i64 ((f.pl:Int))))]
theorem pc (k:Nat):boxF k none=[]:=rfl
theorem aj (k:Nat) (o:Option Fld):freeM 0 k (boxF k o)=[]:=by
 cases o with
 |none=>rfl
 |some f=>simp only[boxF,vj,anl,true_and,if_true]
theorem af (k:Nat) (o:Option Fld):settleM 0 (boxF k o)=boxF k o:=by cases o<;>rfl
theorem ah (k:Nat) (o:Option Fld):leaveM 0 (boxF k o)=[]:=by cases o<;>rfl
theorem nz:decide ((0:Int)≥4096)=false:=rfl
theorem oh {l:List UInt8} (hl:l.length≤262144):∀ (n p:Nat) (acc:List Fld) (o:Option Fld),l.length-p<n→p≤l.length→acc.length≤4096→
  go X_b5 [.c (.loop avu),.b 0,.c (.seq ao6 .ret)] ⟨[(0,.d (.sl ((l).map byteD))),(4,ownZ 5 (acc.map Fld.d)),(5,.d (.int .i64 ((p:Int))))],boxF 6 o⟩=some (cd (fp l n p acc),[])
 |0,p,acc,o,hn,hp,ha=>absurd hn (Nat.not_lt_zero _)
 | n+1,p,acc,o,hn,hp,ha=>by
  rw[fp];rw[go_loop];by_cases h:p<l.length
  · rw[if_pos h]
    have d_a:decide ((p:Int)<l.length)=true:=by simp<;>omega
    by_cases hm:4096≤acc.length
    · rw[if_pos hm]
      have d_b:decide ((acc.length:Int)≥4096)=true:=by simp<;>omega
      cases acc with
      |nil=>simp at hm
      | cons x acc=>
        simp only[List.length_cons] at d_b;simp(disch:=first|exact y7|fail) only[go_sem,X_b5,aj,af,ah,d_a,d_b,List.map_cons,am,List.length_cons,zj]
        rfl
    · rw[if_neg hm]
      have d_b:decide ((acc.length:Int)≥4096)=false:=by simp<;>omega
      have hf:=amm hp hl;have hfit:=fun h=>vl (l:=l) (p:=p) h hp
      by_cases he:(b0 l p).2.2≠0
      · rw[if_pos he]
        generalize b0 l p=r at *;obtain⟨f,n,e⟩:=r;simp only at he ⊢;have d1:((e:Int) !=0)=true:=by simp;omega
        unfold qk Fld.d at hf;cases acc with
        | nil=>
         simp(disch:=first|exact y7|fail) only[go_sem,X_b5,aj,af,ah,d_a,nz,hf,d1,List.map_nil,ai]
         rfl
        | cons x acc=>
         simp only[List.length_cons] at d_b;simp(disch:=first|exact y7|fail) only[go_sem,X_b5,aj,af,ah,d_a,d_b,hf,d1,List.map_cons,am,zj]
         rfl
      · rw[if_neg he]
        have he:=Decidable.not_not.1 he;obtain⟨f1,f2⟩:=hfit he;have ih:=oh hl n (p+(b0 l p).2.1) (acc++[(b0 l p).1]) (some (b0 l p).1) y8 f2 (by simp;omega)
        rw[ownF] at ih;rw[← ih];generalize b0 l p=r at *;obtain⟨f,n,e⟩:=r;simp only at he f1 f2 ⊢;subst he;unfold qk Fld.d at hf;rw[Int.natCast_add];cases acc with
        | nil=>
         simp(disch:=first|exact y7|fail) only[go_sem,X_b5,aj,af,ah,d_a,nz,hf,List.map_nil,ai,Fld.d,List.nil_append]
         rfl
        | cons x acc=>
         simp only[List.length_cons] at d_b hm;rw[List.map_cons];generalize x.d=y;simp(disch:=first|exact y7|fail) only[go_sem,X_b5,aj,af,ah,d_a,d_b,hf,List.map_cons,am,zj,Fld.d,List.cons_append]
         rfl
  · rw[if_neg h]
    have d_a:decide ((p:Int)<l.length)=false:=by simp<;>omega
    cases acc with
    | nil=>
      simp(disch:=first|exact y7|fail) only[go_sem,X_b5,aj,af,ah,d_a,List.map_nil,ai]
      rfl
    | cons x acc=>
      simp(disch:=first|exact y7|fail) only[go_sem,X_b5,aj,af,ah,d_a,List.map_cons,am]
      rfl
theorem bh (l:List UInt8):l.length≤1000000→evL cfg n_b5 0 [.d (.sl ((l).map byteD))] []=some (cd (aa l),[]):=by
 intro hl;rw[o_b5];unfold aa;by_cases h:l.length>262144
 · rw[if_pos h]
   have d_a:decide ((l.length:Int)>262144)=true:=by simp<;>omega
   simp(disch:=first|exact y7|fail) only[go_sem,X_b5,c_b5,d_a]
   rfl
 · rw[if_neg h]
   have d_a:decide ((l.length:Int)>262144)=false:=by simp<;>omega
   have:=oh (l:=l) y8 (l.length+1) 0 [] none y8 y8 zb;rw[List.map_nil,ai,pc] at this;simp(disch:=first|exact y7|fail) only[go_sem,X_b5,c_b5,d_a]
   exact this
theorem kr {l:List UInt8} (hl:l.length≤262144):∀ (n p:Nat) (acc:List Fld) (o:Option Fld),l.length-p<n→p≤l.length→acc.length≤4096→
  go X_aw [.c (.loop avy),.b 0,.c (.seq ap1 .ret)] ⟨[(0,.d (.sl ((l).map byteD))),(4,ownZ 5 (acc.map Fld.d)),(5,.d (.int .i64 ((p:Int))))],boxF 6 o⟩=some (cd (fp l n p acc),[])
 |0,p,acc,o,hn,hp,ha=>absurd hn (Nat.not_lt_zero _)
 | n+1,p,acc,o,hn,hp,ha=>by
  rw[fp];rw[go_loop];by_cases h:p<l.length
  · rw[if_pos h]
    have d_a:decide ((p:Int)<l.length)=true:=by simp<;>omega
    by_cases hm:4096≤acc.length
    · rw[if_pos hm]
      have d_b:(((acc.length:Int))==4096)=true:=by simp;omega
      cases acc with
      |nil=>simp at hm
      | cons x acc=>
        simp only[List.length_cons] at d_b;simp(disch:=first|exact y7|fail) only[go_sem,X_aw,aj,af,ah,d_a,d_b,List.map_cons,am,List.length_cons,zj]
        rfl
    · rw[if_neg hm]
      have d_b:(((acc.length:Int))==4096)=false:=by simp;omega
      have hf:=tq hp hl;have hfit:=fun h=>vl (l:=l) (p:=p) h hp
      by_cases he:(b0 l p).2.2≠0
      · rw[if_pos he]
        generalize b0 l p=r at *;obtain⟨f,n,e⟩:=r;simp only at he ⊢;have d1:((e:Int) !=0)=true:=by simp;omega
        unfold lr Fld.d at hf;simp only[he,if_true,if_false] at hf;cases acc with
        | nil=>
         simp(disch:=first|exact y7|fail) only[go_sem,X_aw,aj,af,ah,d_a,nz,hf,d1,List.map_nil,ai]
         rfl
        | cons x acc=>
         simp only[List.length_cons] at d_b;simp(disch:=first|exact y7|fail) only[go_sem,X_aw,aj,af,ah,d_a,d_b,hf,d1,List.map_cons,am,zj]
         rfl
      · rw[if_neg he]
        have he:=Decidable.not_not.1 he;obtain⟨f1,f2⟩:=hfit he;have ih:=kr hl n (p+(b0 l p).2.1) (acc++[(b0 l p).1]) (some (b0 l p).1) y8 f2 (by simp;omega)
        rw[ownF] at ih;rw[← ih];generalize b0 l p=r at *;obtain⟨f,n,e⟩:=r;simp only at he f1 f2 ⊢;subst he;unfold lr Fld.d at hf;simp only[he,if_true,if_false] at hf;rw[Int.natCast_add];cases acc with
        | nil=>
         simp(disch:=first|exact y7|fail) only[go_sem,X_aw,aj,af,ah,d_a,nz,hf,List.map_nil,ai,Fld.d,List.nil_append]
         rfl
        | cons x acc=>
         simp only[List.length_cons] at d_b hm;rw[List.map_cons];generalize x.d=y;simp(disch:=first|exact y7|fail) only[go_sem,X_aw,aj,af,ah,d_a,d_b,hf,List.map_cons,am,zj,Fld.d,List.cons_append]
         rfl
  · rw[if_neg h]
    have d_a:decide ((p:Int)<l.length)=false:=by simp<;>omega
    cases acc with
    | nil=>
      simp(disch:=first|exact y7|fail) only[go_sem,X_aw,aj,af,ah,d_a,List.map_nil,ai]
      rfl
    | cons x acc=>
      simp(disch:=first|exact y7|fail) only[go_sem,X_aw,aj,af,ah,d_a,List.map_cons,am]
      rfl
theorem al (l:List UInt8):l.length≤1000000→evL cfg n_aw 0 [.d (.sl ((l).map byteD))] []=some (cd (aa l),[]):=by
 intro hl;rw[o_aw];unfold aa;by_cases h:l.length>262144
 · rw[if_pos h]
   have d_a:decide ((l.length:Int)>262144)=true:=by simp<;>omega
   simp(disch:=first|exact y7|fail) only[go_sem,X_aw,c_aw,d_a]
   rfl
 · rw[if_neg h]
   have d_a:decide ((l.length:Int)>262144)=false:=by simp<;>omega
   have:=kr (l:=l) y8 (l.length+1) 0 [] none y8 y8 zb;rw[List.map_nil,ai,pc] at this;simp(disch:=first|exact y7|fail) only[go_sem,X_aw,c_aw,d_a]
   exact this
theorem fieldM_b {l:List UInt8} (p:Nat):(b0 l p).1.b.length≤l.length:=by
 unfold b0;simp only
 repeat' split
 all_goals simp[fld0]
 omega
theorem amq {l:List UInt8}:∀ (n p:Nat) (acc:List Fld),(∀ f∈acc,f.b.length≤l.length)→acc.length≤4096→(∀ f∈(fp l n p acc).1,f.b.length≤l.length)∧(fp l n p acc).1.length≤4096
 |0,p,acc,h,hl=>by simp[fp]
 | n+1,p,acc,h,hl=>by
  rw[fp];split
  · split
    · simp
    · split
      · simp
      · rename_i h2 _
        refine amq n _ _ ?_ (by simp;omega)
        intro f hf;rcases aa3.1 hf with hf|hf
        · exact h f hf
        · rw[aa1] at hf
          subst hf;exact fieldM_b p
  · exact⟨h,hl⟩
theorem bo (l:List UInt8):(∀ f∈(aa l).1,f.b.length≤l.length)∧(aa l).1.length≤4096:=by
 unfold aa;split
 · simp
 · exact amq _ _ _ zb zb
theorem aoa (es:List D):evL cfg n_d6 0 [.d (.sl es)] []=some (.clo n_fb [] [.d (.ptr (.sl es))],[]):=by
 refine en (n:=1) ?_;have hx:cfg.ext n_d6=some (xSeq n_fb):=rfl;simp only[evFn,hx,allD,Option.map_some,Option.bind_some,xSeq]
theorem bsg:cfg.iter n_fb=some (vc 5):=rfl
theorem all_agg (fs:List Fld):(fs.map Fld.d).all (aggN 5)=true:=by
 rw[aax];intro d hd;obtain⟨f,_,rfl⟩:=aa7.1 hd;rfl
def lastD (o:Option Fld):V:= .d (.tup [(o.getD fld0).d,.bool o.isSome])
def itD (l:List (Int×Fld)):List (List D):=l.map fun p=>[.int .i64 p.1,p.2.d]
def u7:Nat→List Fld→List (Int×Fld)
 |_,[]=>[]
 |i,x::r=>((i:Int),x)::u7 (i+1) r
theorem anc:∀ (i:Nat) (fs:List Fld),dn i (fs.map Fld.d)=itD (u7 i fs)
 |_,[]=>rfl
 |i,x::r=>by rw[List.map_cons,dn,anc (i+1) r];rfl
theorem u6:∀ (i:Nat) (fs:List Fld),(u7 i fs).map Prod.snd=fs
 |_,[]=>rfl
 |i,x::r=>by rw[u7,List.map_cons,u6 (i+1) r]
theorem beqN (a b:Nat):((a:Int)==(b:Int))=(a==b):=by
 by_cases h:a=b
 · subst h;simp
 · have h2:¬ (a:Int)=b:=y8
   rw[zp.2 h,zp.2 h2]
theorem qf (num wire:Nat) (es:List D):∀ (l:List (Int×Fld)),
  goE X_dr [12,13] btp bto [(4,.ref 0 4 0),(5,.ref 0 5 0),(6,.ref 0 6 0),(7,.ref 0 7 0),(11,.clo n_fb [] [.d (.ptr (.sl es))])] [.b 0,.c (bh1.seq .ret)] (itD l)
   [(⟨0,4,0⟩,.d (.int .i64 ((num:Int)))),(⟨0,5,0⟩,.d (.int .i64 ((wire:Int)))),(⟨0,6,0⟩,.d (.int .i64 (0))),(⟨0,6,1⟩,.d (.int .i64 (0))),(⟨0,6,2⟩,.d (.int .u64 (0))),(⟨0,6,3⟩,.d .nilS),(⟨0,6,4⟩,.d (.int .i64 (0))),(⟨0,7,0⟩,.d (.bool (false)))]=
   some (lastD ((l.map Prod.snd).find? (isF num wire)),[])
 | []=>by
  simp(disch:=first|exact y7|fail) only[go_sem,X_dr,itD,List.map_nil]
  rfl
 | x::l=>by
  have ih:=qf num wire es l;unfold itD at ih ⊢;rw[List.map_cons,goE_cons];have e1:=beqN x.2.num num;have e2:=beqN x.2.wire wire;rw[List.map_cons,List.find?_cons];unfold isF;cases h1:x.2.num==num with
  | false=>
   rw[h1] at e1;simp(disch:=first|exact y7|fail) only[go_sem,X_dr,Fld.d,e1,Bool.false_and]
   exact ih
  | true=>
   rw[h1] at e1;cases h2:x.2.wire==wire with
   | false=>
    rw[h2] at e2;simp(disch:=first|exact y7|fail) only[go_sem,X_dr,Fld.d,e1,e2,Bool.true_and]
    exact ih
   | true=>
    rw[h2] at e2;simp(disch:=first|exact y7|fail) only[go_sem,X_dr,Fld.d,e1,e2,Bool.true_and]
    rfl
theorem bg0 (fs:List Fld) (hn:fs.length≤1000000):vc 5 [.ptr (.sl (fs.map Fld.d))]=some (itD (u7 0 fs).reverse):=by
 unfold vc;simp only;rw[if_pos ⟨all_agg fs,by simp;omega⟩,anc]
 unfold itD;rw[List.map_reverse]
theorem m9 (fs:List Fld) (num wire:Nat) (hn:fs.length≤1000000):evL cfg n_dr 0 [.d (.sl (fs.map Fld.d)),.d (.int .i64 ((num:Int))),.d (.int .i64 ((wire:Int)))] []=some (lastD (lastM fs num wire),[]):=by
 rw[o_dr];have h:=qf num wire (fs.map Fld.d) (u7 0 fs).reverse;rw[List.map_reverse,u6] at h;have e:=bg0 fs hn;simp(disch:=first|exact y7|fail) only[go_sem,X_dr,c_dr,aoa,bsg,e]
 exact h
def uintD (o:Option Fld):V:= .d (.tup [.int .u64 ((o.getD fld0).u:Int),.bool o.isSome])
theorem bx (fs:List Fld) (num:Nat) (hn:fs.length≤1000000):evL cfg n_ey 0 [.d (.sl (fs.map Fld.d)),.d (.int .i64 ((num:Int)))] []=some (uintD (lastM fs num 0),[]):=by
 rw[o_ey];have h:=m9 fs num 0 hn;rw[show((0:Nat):Int)=0 from rfl] at h
 simp only[lastD,Fld.d] at h;unfold uintD;generalize lastM fs num 0=o at *;simp(disch:=first|exact y7|fail) only[go_sem,X_ey,c_ey,h]
def lastF (p:Option Fld) (fs:List Fld) (num wire:Nat):Option Fld:=match fs.reverse.find? (isF num wire) with
 |some f=>some f
 |none=>p
theorem u2 (p:Option Fld) (x:Fld) (fs:List Fld) (num wire:Nat):lastF p (x::fs) num wire=lastF (if isF num wire x=true then some x else p) fs num wire:=by
 unfold lastF;rw[List.reverse_cons,List.find?_append];cases fs.reverse.find? (isF num wire) with
 |some f=>rfl
 | none=>
  rw[Option.none_or,List.find?_cons];cases isF num wire x<;>rfl
theorem mt (fs:List Fld) (num:Nat) (hn:fs.length≤1000000):∀ (r:List Fld) (i:Nat) (p:Option Fld),fs.drop i=r→i≤fs.length→
  go X_bg [.c (.loop btw),.b 0,.c (ao4.seq .ret)] ⟨[(0,.d (.sl (fs.map Fld.d))),(1,.d (.int .i64 ((num:Int)))),(6,.d (.int .u64 (((p.getD fld0).u:Int)))),(7,.d (.bool (p.isSome))),(8,.d (.int .i64 ((i:Int))))],[]⟩=some (uintD (lastF p r num 0),[])
 | [],i,p,hr,hi=>by
  have:=bd hr;have d_a:decide ((i:Int)<fs.length)=false:=by simp<;>omega
  rw[go_loop];simp(disch:=first|exact y7|fail) only[go_sem,X_bg,d_a,zj]
  rfl
 | x::r,i,p,hr,hi=>by
  obtain⟨h1,h2,h3⟩:=cc hr;have d_a:decide ((i:Int)<fs.length)=true:=by simp<;>omega
  have e1:=beqN x.num num;have e2:((x.wire:Int)==0)=(x.wire==0):=beqN x.wire 0;have ih:=mt fs num hn r (i+1) (if isF num 0 x=true then some x else p) h3 h1
  rw[show(((i+1:Nat)):Int)=(i:Int)+1 by omega] at ih
  rw[u2,← ih];unfold isF;cases hh:x.num==num with
  | false=>
   rw[hh] at e1;rw[go_loop];simp(disch:=first|exact y7|fail) only[go_sem,X_bg,d_a,zj,ae,zx,h2,Option.map_some,Fld.d,e1,Bool.false_and,zh,if_false]
  | true=>
   rw[hh] at e1;rw[go_loop];cases hw:x.wire==0 with
   | false=>
    rw[hw] at e2;simp(disch:=first|exact y7|fail) only[go_sem,X_bg,d_a,zj,ae,zx,h2,Option.map_some,Fld.d,e1,e2,Bool.true_and,zh,if_false]
   | true=>
    rw[hw] at e2;simp(disch:=first|exact y7|fail) only[go_sem,X_bg,d_a,zj,ae,zx,h2,Option.map_some,Fld.d,e1,e2,Bool.true_and,if_true,Option.getD_some,Option.isSome_some]
theorem ag (fs:List Fld) (num:Nat) (hn:fs.length≤1000000):evL cfg n_bg 0 [.d (.sl (fs.map Fld.d)),.d (.int .i64 ((num:Int)))] []=some (uintD (lastM fs num 0),[]):=by
 rw[o_bg];have h:=mt fs num hn fs 0 none rfl (aaj _);rw[show lastF none fs num 0=lastM fs num 0 by unfold lastF lastM;cases fs.reverse.find? (isF num 0)<;>rfl] at h
 simp(disch:=first|exact y7|fail) only[go_sem,X_bg,c_bg]
 exact h
theorem take5 (a b c d e:D):List.take 5 [a,b,c,d,e]=[a,b,c,d,e]:=rfl
theorem len5 (a b c d e:D):[a,b,c,d,e].length=5:=rfl
theorem bz (k z:Nat) (l:List D):(ownZ z l).free 0 k=ownZ z l:=by cases l<;>rfl
theorem ap (z:Nat) (l:List D):(ownZ z l).home 0=ownZ z l:=by cases l<;>rfl
