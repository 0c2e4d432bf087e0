import Derived.Test.YtplmdlobbfcknaaGreatDoorPbA
namespace Go.Proofs.YtplmdlobbfcknaaGreatDoor
open Go Go.Ev
set_option maxHeartbeats 4000000
theorem arw {l:List UInt8} {p:Nat} (h:(fieldM l p).2.2=0) (hp:p≤l.length):1≤(fieldM l p).2.1∧p+(fieldM l p).2.1≤l.length:=by
 have h1:=fun h=>vt (l:=l) (p:=p) h hp
 unfold fieldM at h ⊢;simp only at h ⊢;by_cases he:(varM 0 0 (l.drop p)).2.2≠0
 · rw[if_pos he] at h;exact absurd h he
 rw[if_neg he] at h ⊢;obtain⟨_,a2,a3,_⟩:=h1 (Decidable.not_not.1 he);generalize varM 0 0 (l.drop p)=k at *;obtain⟨k1,n,e⟩:=k;simp only at *;by_cases hq:k1 / 8<1∨k1 / 8>536870911
 · rw[if_pos hq] at h;exact absurd h yl
 rw[if_neg hq] at h ⊢;have h2:=fun h=>vt (l:=l) (p:=p+n) h a3
 generalize varM 0 0 (l.drop (p+n))=v at *;obtain⟨v1,m,e2⟩:=v;simp only at *;by_cases w0:k1 % 8=0
 · rw[if_pos w0] at h ⊢
   by_cases hz:e2≠0
   · rw[if_pos hz] at h;exact absurd h hz
   rw[if_neg hz];obtain⟨_,b2,b3,_⟩:=h2 (Decidable.not_not.1 hz);simp only;omega
 rw[if_neg w0] at h ⊢;by_cases w2:k1 % 8=2
 · rw[if_pos w2] at h ⊢
   by_cases hz:e2≠0
   · rw[if_pos hz] at h;exact absurd h hz
   rw[if_neg hz] at h ⊢;obtain⟨_,b2,b3,_⟩:=h2 (Decidable.not_not.1 hz);by_cases hs:v1>l.length-p-(n+m)
   · rw[if_pos hs] at h;exact absurd h yl
   rw[if_neg hs];simp only;omega
 rw[if_neg w2] at h ⊢;by_cases w1:k1 % 8=1
 · rw[if_pos w1] at h ⊢
   by_cases hs:8>l.length-p-n
   · rw[if_pos hs] at h;exact absurd h yl
   rw[if_neg hs];simp only;omega
 rw[if_neg w1] at h ⊢;by_cases w5:k1 % 8=5
 · rw[if_pos w5] at h ⊢
   by_cases hs:4>l.length-p-n
   · rw[if_pos hs] at h;exact absurd h yl
   rw[if_neg hs];simp only;omega
 rw[if_neg w5] at h;exact absurd h yl
def o9 (r:List Fld×Nat):V:= .d (.tup [.sl (r.1.map Fld.d),.int .i64 (r.2:Int)])
def ownZ (z:Nat) (acc:List D):V:=if acc.isEmpty then .d .nilS else .own false z acc
theorem bc (z:Nat):ownZ z []= .d .nilS:=rfl
theorem bo (z:Nat) (d:D) (r:List D):ownZ z (d::r)= .own false z (d::r):=rfl
theorem j4 (z:Nat) (r:List D) (d:D):ownZ z (r++[d])= .own false z (r++[d]):=by cases r<;>rfl
theorem ownF (acc:List Fld) (f:Fld):ownZ 5 ((acc++[f]).map Fld.d)= .own false 5 (acc.map Fld.d++[f.d]):=by
 rw[List.map_append,List.map_cons,List.map_nil,j4]
def boxF (k:Nat):Option Fld→List (Cel×V)
 |none=>[]
 |some f=>[(⟨0,k,0⟩,.d (.int .i64 ((f.num:Int)))),(⟨0,k,1⟩,.d (.int .i64 ((f.wire:Int)))),(⟨0,k,2⟩,.d (.int .u64 ((f.u:Int)))),(⟨0,k,3⟩,.d (.sl ((f.b).map byteD))),(⟨0,k,4⟩,.d (.int .i64 ((f.pl:Int))))]
theorem aet (k:Nat):boxF k none=[]:=rfl
theorem br (k:Nat) (o:Option Fld):freeM 0 k (boxF k o)=[]:=by
 cases o with
 |none=>rfl
 |some f=>simp only[boxF,ur,ad5,true_and,if_true]
theorem al (k:Nat) (o:Option Fld):settleM 0 (boxF k o)=boxF k o:=by cases o<;>rfl
theorem cq (k:Nat) (o:Option Fld):leaveM 0 (boxF k o)=[]:=by cases o<;>rfl
theorem nz:decide ((0:Int)≥4096)=false:=rfl
theorem mo {l:List UInt8} (hl:l.length≤262144):∀ (n p:Nat) (acc:List Fld) (o:Option Fld),l.length-p<n→p≤l.length→acc.length≤4096→
  go X_a8 [.c (.loop aim),.b 0,.c (.seq ahf .ret)] ⟨[(0,.d (.sl ((l).map byteD))),(4,ownZ 5 (acc.map Fld.d)),(5,.d (.int .i64 ((p:Int))))],boxF 6 o⟩=some (o9 (j3 l n p acc),[])
 |0,p,acc,o,hn,hp,ha=>absurd hn (Nat.not_lt_zero _)
 | n+1,p,acc,o,hn,hp,ha=>by
  rw[j3];rw[go_loop];by_cases h:p<l.length
  · rw[if_pos h]
    have d_a:decide ((p:Int)<l.length)=true:=by simp<;>omega
    by_cases hm:4096≤acc.length
    · rw[if_pos hm]
      have d_b:decide ((acc.length:Int)≥4096)=true:=by simp<;>omega
      cases acc with
      |nil=>simp at hm
      | cons x acc=>
        simp only[List.length_cons] at d_b;simp(disch:=first|exact yi|fail) only[go_sem,X_a8,br,al,cq,d_a,d_b,List.map_cons,bo,List.length_cons,y9]
        rfl
    · rw[if_neg hm]
      have d_b:decide ((acc.length:Int)≥4096)=false:=by simp<;>omega
      have hf:=adg hp hl;have hfit:=fun h=>arw (l:=l) (p:=p) h hp
      by_cases he:(fieldM l p).2.2≠0
      · rw[if_pos he]
        generalize fieldM l p=r at *;obtain⟨f,n,e⟩:=r;simp only at he ⊢;have d1:((e:Int) !=0)=true:=by simp;omega
        unfold pm Fld.d at hf;cases acc with
        | nil=>
         simp(disch:=first|exact yi|fail) only[go_sem,X_a8,br,al,cq,d_a,nz,hf,d1,List.map_nil,bc]
         rfl
        | cons x acc=>
         simp only[List.length_cons] at d_b;simp(disch:=first|exact yi|fail) only[go_sem,X_a8,br,al,cq,d_a,d_b,hf,d1,List.map_cons,bo,y9]
         rfl
      · rw[if_neg he]
        have he:=Decidable.not_not.1 he;obtain⟨f1,f2⟩:=hfit he;have ih:=mo hl n (p+(fieldM l p).2.1) (acc++[(fieldM l p).1]) (some (fieldM l p).1) yj f2 (by simp;omega)
        rw[ownF] at ih;rw[← ih];generalize fieldM l p=r at *;obtain⟨f,n,e⟩:=r;simp only at he f1 f2 ⊢;subst he;unfold pm Fld.d at hf;rw[Int.natCast_add];cases acc with
        | nil=>
         simp(disch:=first|exact yi|fail) only[go_sem,X_a8,br,al,cq,d_a,nz,hf,List.map_nil,bc,Fld.d,List.nil_append]
         rfl
        | cons x acc=>
         simp only[List.length_cons] at d_b hm;rw[List.map_cons];generalize x.d=y;simp(disch:=first|exact yi|fail) only[go_sem,X_a8,br,al,cq,d_a,d_b,hf,List.map_cons,bo,y9,Fld.d,List.cons_append]
         rfl
  · rw[if_neg h]
    have d_a:decide ((p:Int)<l.length)=false:=by simp<;>omega
    cases acc with
    | nil=>
      simp(disch:=first|exact yi|fail) only[go_sem,X_a8,br,al,cq,d_a,List.map_nil,bc]
      rfl
    | cons x acc=>
      simp(disch:=first|exact yi|fail) only[go_sem,X_a8,br,al,cq,d_a,List.map_cons,bo]
      rfl
theorem di (l:List UInt8):l.length≤1000000→evL cfg n_a8 0 [.d (.sl ((l).map byteD))] []=some (o9 (aw l),[]):=by
 intro hl;rw[o_a8];unfold aw;by_cases h:l.length>262144
 · rw[if_pos h]
   have d_a:decide ((l.length:Int)>262144)=true:=by simp<;>omega
   simp(disch:=first|exact yi|fail) only[go_sem,X_a8,c_a8,d_a]
   rfl
 · rw[if_neg h]
   have d_a:decide ((l.length:Int)>262144)=false:=by simp<;>omega
   have:=mo (l:=l) yj (l.length+1) 0 [] none yj yj yl;rw[List.map_nil,bc,aet] at this;simp(disch:=first|exact yi|fail) only[go_sem,X_a8,c_a8,d_a]
   exact this
theorem fieldM_b {l:List UInt8} (p:Nat):(fieldM l p).1.b.length≤l.length:=by
 unfold fieldM;simp only
 repeat' split
 all_goals simp[fld0]
 omega
theorem adj {l:List UInt8}:∀ (n p:Nat) (acc:List Fld),(∀ f∈acc,f.b.length≤l.length)→acc.length≤4096→(∀ f∈(j3 l n p acc).1,f.b.length≤l.length)∧(j3 l n p acc).1.length≤4096
 |0,p,acc,h,hl=>by simp[j3]
 | n+1,p,acc,h,hl=>by
  rw[j3];split
  · split
    · simp
    · split
      · simp
      · rename_i h2 _
        refine adj n _ _ ?_ (by simp;omega)
        intro f hf;rcases zw.1 hf with hf|hf
        · exact h f hf
        · rw[zx] at hf
          subst hf;exact fieldM_b p
  · exact⟨h,hl⟩
theorem azm (l:List UInt8):(∀ f∈(aw l).1,f.b.length≤l.length)∧(aw l).1.length≤4096:=by
 unfold aw;split
 · simp
 · exact adj _ _ _ yl yl
theorem ae0 (es:List D):evL cfg n_bn 0 [.d (.sl es)] []=some (.clo n_bv [] [.d (.ptr (.sl es))],[]):=by
 refine ap (n:=1) ?_;have hx:cfg.ext n_bn=some (xSeq n_bv):=rfl;simp only[evFn,hx,allD,Option.map_some,Option.bind_some,xSeq]
theorem a0a:cfg.iter n_bv=some (uh 5):=rfl
theorem all_agg (fs:List Fld):(fs.map Fld.d).all (aggN 5)=true:=by
 rw[zg];intro d hd;obtain⟨f,_,rfl⟩:=zz.1 hd;rfl
def lastD (o:Option Fld):V:= .d (.tup [(o.getD fld0).d,.bool o.isSome])
def itD (l:List (Int×Fld)):List (List D):=l.map fun p=>[.int .i64 p.1,p.2.d]
def ue:Nat→List Fld→List (Int×Fld)
 |_,[]=>[]
 |i,x::r=>((i:Int),x)::ue (i+1) r
theorem adx:∀ (i:Nat) (fs:List Fld),dp i (fs.map Fld.d)=itD (ue i fs)
 |_,[]=>rfl
 |i,x::r=>by rw[List.map_cons,dp,adx (i+1) r];rfl
theorem ud:∀ (i:Nat) (fs:List Fld),(ue i fs).map Prod.snd=fs
 |_,[]=>rfl
 |i,x::r=>by rw[ue,List.map_cons,ud (i+1) r]
theorem beqN (a b:Nat):((a:Int)==(b:Int))=(a==b):=by
 by_cases h:a=b
 · subst h;simp
 · have h2:¬ (a:Int)=b:=yj
   rw[beq_eq_false_iff_ne.2 h,beq_eq_false_iff_ne.2 h2]
theorem o7 (num wire:Nat) (es:List D):∀ (l:List (Int×Fld)),
  goE X_bl [12,13] a1r a1q [(4,.ref 0 4 0),(5,.ref 0 5 0),(6,.ref 0 6 0),(7,.ref 0 7 0),(11,.clo n_bv [] [.d (.ptr (.sl es))])] [.b 0,.c (atv.seq .ret)] (itD l)
   [(⟨0,4,0⟩,.d (.int .i64 ((num:Int)))),(⟨0,5,0⟩,.d (.int .i64 ((wire:Int)))),(⟨0,6,0⟩,.d (.int .i64 (0))),(⟨0,6,1⟩,.d (.int .i64 (0))),(⟨0,6,2⟩,.d (.int .u64 (0))),(⟨0,6,3⟩,.d .nilS),(⟨0,6,4⟩,.d (.int .i64 (0))),(⟨0,7,0⟩,.d (.bool (false)))]=
   some (lastD ((l.map Prod.snd).find? (isF num wire)),[])
 | []=>by
  simp(disch:=first|exact yi|fail) only[go_sem,X_bl,itD,List.map_nil]
  rfl
 | x::l=>by
  have ih:=o7 num wire es l;unfold itD at ih ⊢;rw[List.map_cons,goE_cons];have e1:=beqN x.2.num num;have e2:=beqN x.2.wire wire;rw[List.map_cons,List.find?_cons];unfold isF;cases h1:x.2.num==num with
  | false=>
   rw[h1] at e1;simp(disch:=first|exact yi|fail) only[go_sem,X_bl,Fld.d,e1,Bool.false_and]
   exact ih
  | true=>
   rw[h1] at e1;cases h2:x.2.wire==wire with
   | false=>
    rw[h2] at e2;simp(disch:=first|exact yi|fail) only[go_sem,X_bl,Fld.d,e1,e2,Bool.true_and]
    exact ih
   | true=>
    rw[h2] at e2;simp(disch:=first|exact yi|fail) only[go_sem,X_bl,Fld.d,e1,e2,Bool.true_and]
    rfl
theorem ar7 (fs:List Fld) (hn:fs.length≤1000000):uh 5 [.ptr (.sl (fs.map Fld.d))]=some (itD (ue 0 fs).reverse):=by
 unfold uh;simp only;rw[if_pos ⟨all_agg fs,by simp;omega⟩,adx]
 unfold itD;rw[List.map_reverse]
theorem qy (fs:List Fld) (num wire:Nat) (hn:fs.length≤1000000):evL cfg n_bl 0 [.d (.sl (fs.map Fld.d)),.d (.int .i64 ((num:Int))),.d (.int .i64 ((wire:Int)))] []=some (lastD (lastM fs num wire),[]):=by
 rw[o_bl];have h:=o7 num wire (fs.map Fld.d) (ue 0 fs).reverse;rw[List.map_reverse,ud] at h;have e:=ar7 fs hn;simp(disch:=first|exact yi|fail) only[go_sem,X_bl,c_bl,ae0,a0a,e]
 exact h
def uintD (o:Option Fld):V:= .d (.tup [.int .u64 ((o.getD fld0).u:Int),.bool o.isSome])
theorem gh (fs:List Fld) (num:Nat) (hn:fs.length≤1000000):evL cfg n_br 0 [.d (.sl (fs.map Fld.d)),.d (.int .i64 ((num:Int)))] []=some (uintD (lastM fs num 0),[]):=by
 rw[o_br];have h:=qy fs num 0 hn;rw[show((0:Nat):Int)=0 from rfl] at h
 simp only[lastD,Fld.d] at h;unfold uintD;generalize lastM fs num 0=o at *;simp(disch:=first|exact yi|fail) only[go_sem,X_br,c_br,h]
theorem take5 (a b c d e:D):List.take 5 [a,b,c,d,e]=[a,b,c,d,e]:=rfl
theorem len5 (a b c d e:D):[a,b,c,d,e].length=5:=rfl
theorem cd (k z:Nat) (l:List D):(ownZ z l).free 0 k=ownZ z l:=by cases l<;>rfl
theorem bp (z:Nat) (l:List D):(ownZ z l).home 0=ownZ z l:=by cases l<;>rfl
def textD (o:Option Fld):V:= .d (.tup [.sl ((o.getD fld0).b.map byteD),.bool o.isSome])
theorem lr (fs:List Fld) (num:Nat) (hn:fs.length≤1000000) (hb:∀ f∈fs,f.b.length≤1000000):evL cfg n_bt 0 [.d (.sl (fs.map Fld.d)),.d (.int .i64 ((num:Int)))] []=some (textD (lastM fs num 2),[]):=by
 rw[o_bt];have h:=qy fs num 2 hn;rw[show((2:Nat):Int)=2 from rfl] at h
 simp only[lastD,Fld.d] at h;unfold textD;have hl:((lastM fs num 2).getD fld0).b.length≤1000000:=by
  cases ho:lastM fs num 2 with
  |none=>simp[fld0]
  |some f=>exact hb f (List.mem_reverse.1 (List.mem_of_find?_eq_some ho))
 generalize lastM fs num 2=o at *;have hcl:=du (o.getD fld0).b hl;generalize((o.getD fld0).b)=q at *;cases q with
 | nil=>
  simp only[List.isEmpty_nil,if_true,List.map_nil] at hcl h;simp(disch:=first|exact yi|fail) only[go_sem,X_bt,c_bt,h,hcl]
 | cons x q=>
  simp only[List.isEmpty_cons,yz,if_false,List.map_cons] at hcl h;simp(disch:=first|exact yi|fail) only[go_sem,X_bt,c_bt,h,hcl]
theorem shlN {num:Nat} (h:num≤536870911):shlI .u64 (num:Int) 3=((num*8:Nat):Int):=by
 have h1:=shlU (k:= .u64) rfl num (n:=3) ym;rw[show((3:Nat):Int)=3 from rfl] at h1
 rw[h1,show(2:Nat) ^ IntKind.u64.bits=18446744073709551616 from rfl,aaf yj]
theorem orN {num w:Nat} (h:num≤536870911) (hw:w<8):orI .u64 ((num*8:Nat):Int) (w:Int)=((num*8+w:Nat):Int):=by
 rw[orU (k:= .u64) rfl (a:=num*8) (b:=w) (by show _<18446744073709551616;omega) (by show w<18446744073709551616;omega),Nat.or_comm]
 have:=apg (a:=w) (b:=num) (n:=3) yj;rw[show(2:Nat) ^ 3=8 from rfl] at this
 rw[this];omega
theorem gy {num:Nat} (h1:1≤num) (h2:num≤536870911):evL cfg n_bm 0 [.d (.int .i64 ((num:Int)))] []=some (.d (.bool (true)),[]):=by
 rw[o_bm];have d_a:decide ((num:Int)≥1)=true:=by simp<;>omega
 have d_c:decide ((num:Int)≤536870911)=true:=by simp<;>omega
 simp(disch:=first|exact yi|fail) only[go_sem,X_bm,c_bm,d_a,d_c]
theorem da {num v:Nat} (h1:1≤num) (h2:num≤536870911) (hv:v<18446744073709551616):
  evL cfg n_av 0 [.d .nilS,.d (.int .i64 ((num:Int))),.d (.int .u64 ((v:Int)))] []=some (.own false 1 ((uintF num v).map byteD),[]):=by
 rw[o_av];have hm:=gy h1 h2;have e1:=shlN h2;have hl:=dl 10 (num*8);have hp1:=jz (u:=num*8) yj;have hp2:=bw (b:=varB 10 (num*8)) (u:=v) yj hv;unfold uintF;simp(disch:=first|exact yi|fail) only[go_sem,X_av,c_av,hm,pi,e1,hp1,hp2]
theorem ah {b:List UInt8} {num v:Nat} (hb:b.length≤500000) (h1:1≤num) (h2:num≤536870911) (hv:v<18446744073709551616):
  evL cfg n_av 0 [.own false 1 (b.map byteD),.d (.int .i64 ((num:Int))),.d (.int .u64 ((v:Int)))] []=some (.own false 1 ((b++uintF num v).map byteD),[]):=by
 rw[show evL cfg n_av 0 [.own false 1 (b.map byteD),.d (.int .i64 ((num:Int))),.d (.int .u64 ((v:Int)))] []=go X_av [.c c_av] ⟨[(0,.own false 1 (b.map byteD)),(1,.d (.int .i64 ((num:Int)))),(2,.d (.int .u64 ((v:Int))))],[]⟩ from au (fn:=i_av) rfl rfl _ _ _ rfl rfl]
 have hm:=gy h1 h2;have e1:=shlN h2;have hl:=dl 10 (num*8);have hp1:=bw (b:=b) (u:=num*8) yj yj;have hp2:=bw (b:=b++varB 10 (num*8)) (u:=v) (by simp;omega) hv
 unfold uintF;rw[← zm];simp(disch:=first|exact yi|fail) only[go_sem,X_av,c_av,hm,pi,e1,hp1,hp2]
theorem nr {v:List UInt8} {num:Nat} (h1:1≤num) (h2:num≤536870911) (hv:v.length≤300000):
  evL cfg n_ax 0 [.d .nilS,.d (.int .i64 ((num:Int))),.d (.sl ((v).map byteD))] []=some (.own false 1 ((ag num v).map byteD),[]):=by
 rw[o_ax];have hm:=gy h1 h2;have e1:=shlN h2;have e2:=orN (w:=2) h2 yj;rw[show((2:Nat):Int)=2 from rfl] at e2
 have hl:=dl 10 (num*8+2);have hl2:=dl 10 v.length;have hp1:=jz (u:=num*8+2) yj;have hp2:=bw (b:=varB 10 (num*8+2)) (u:=v.length) yj yj;have e:(ag num v).map byteD=(varB 10 (num*8+2)++varB 10 v.length).map byteD++v.map byteD:=by
  unfold ag;simp only[List.map_append,zm]
 rw[e];have hle:(varB 10 (num*8+2)++varB 10 v.length).length≤600000:=by simp;omega
 generalize varB 10 (num*8+2)++varB 10 v.length=q at *;simp(disch:=first|exact yi|fail) only[go_sem,X_ax,c_ax,hm,y9,pi,e1,e2,hp1,hp2]
theorem bv {b v:List UInt8} {num:Nat} (hb:b.length≤500000) (h1:1≤num) (h2:num≤536870911) (hv:v.length≤300000):
  evL cfg n_ax 0 [.own false 1 (b.map byteD),.d (.int .i64 ((num:Int))),.d (.sl ((v).map byteD))] []=some (.own false 1 ((b++ag num v).map byteD),[]):=by
 rw[show evL cfg n_ax 0 [.own false 1 (b.map byteD),.d (.int .i64 ((num:Int))),.d (.sl ((v).map byteD))] []=go X_ax [.c c_ax] ⟨[(0,.own false 1 (b.map byteD)),(1,.d (.int .i64 ((num:Int)))),(2,.d (.sl ((v).map byteD)))],[]⟩ from au (fn:=i_ax) rfl rfl _ _ _ rfl rfl]
 have hm:=gy h1 h2;have e1:=shlN h2;have e2:=orN (w:=2) h2 yj;rw[show((2:Nat):Int)=2 from rfl] at e2
 have hl:=dl 10 (num*8+2);have hl2:=dl 10 v.length;have hp1:=bw (b:=b) (u:=num*8+2) yj yj;have hp2:=bw (b:=b++varB 10 (num*8+2)) (u:=v.length) (by simp;omega) yj
 have e:(b++ag num v).map byteD=(b++varB 10 (num*8+2)++varB 10 v.length).map byteD++v.map byteD:=by
  unfold ag;simp only[List.map_append,zm]
 rw[e];have hle:(b++varB 10 (num*8+2)++varB 10 v.length).length≤600000:=by simp;omega
 generalize b++varB 10 (num*8+2)++varB 10 v.length=q at *;simp(disch:=first|exact yi|fail) only[go_sem,X_ax,c_ax,hm,y9,pi,e1,e2,hp1,hp2]
def fldsD (l:List Fld):D:= .sl (l.map Fld.d)
def r8 (l:List UInt8):D:= .sl (l.map byteD)
structure Parts where
 a:List (List Fld)
 b:List (List Fld)
 c:List (List Fld)
 e:List (List Fld)
 st:List (List UInt8)
def Parts.add (p:Parts) (f:Fld):Parts:=
 if f.wire≠2 then p else
 if f.num=7 then {p with e:=p.e++[(aw f.b).1],st:=p.st++[f.b]} else
 if f.num=3 then {p with a:=p.a++[(aw f.b).1]} else
 if f.num=4 then {p with b:=p.b++[(aw f.b).1]} else
 if f.num=5 then {p with c:=p.c++[(aw f.b).1]} else p
def splM:List Fld→Parts→Parts
 | [],p=>p
 |f::r,p=>splM r (p.add f)
def Parts.small (p:Parts) (n:Nat):Prop:=p.a.length≤n∧p.b.length≤n∧p.c.length≤n∧p.e.length≤n∧p.st.length≤n
theorem Parts.small_add {p:Parts} {n:Nat} (h:p.small n) (f:Fld):(p.add f).small (n+1):=by
 obtain⟨h1,h2,h3,h4,h5⟩:=h;unfold Parts.add
 repeat' split
 all_goals (refine⟨?_,?_,?_,?_,?_⟩<;>(try simp only[yy,List.length_cons,List.length_nil])<;>omega)
def wantF (f:Fld):Prop:=f.wire=2→(f.num=7∨f.num=3∨f.num=4∨f.num=5)→(aw f.b).2=0
abbrev zS (k:Nat):List (Cel×V):=[(⟨0,k,0⟩,.d .nilS),(⟨0,k,1⟩,.d .nilS),(⟨0,k,2⟩,.d .nilS),(⟨0,k,3⟩,.d .nilS),(⟨0,k,4⟩,.d .nilS),(⟨0,k,5⟩,.d .nilS),(⟨0,k,6⟩,.d .nilS),(⟨0,k,7⟩,.d .nilS),(⟨0,k,8⟩,.d .nilS)]
abbrev pS (k:Nat) (p:Parts):List (Cel×V):=[(⟨0,k,0⟩,.d .nilS),(⟨0,k,1⟩,.d .nilS),(⟨0,k,2⟩,.d .nilS),(⟨0,k,3⟩,ownZ 1 (p.a.map fldsD)),(⟨0,k,4⟩,ownZ 1 (p.b.map fldsD)),(⟨0,k,5⟩,ownZ 1 (p.c.map fldsD)),(⟨0,k,6⟩,.d .nilS),(⟨0,k,7⟩,ownZ 1 (p.e.map fldsD)),(⟨0,k,8⟩,ownZ 1 (p.st.map r8))]
theorem cst3:((3:Nat):Int)=3:=rfl
theorem cst4:((4:Nat):Int)=4:=rfl
theorem cst5:((5:Nat):Int)=5:=rfl
theorem cst7:((7:Nat):Int)=7:=rfl
theorem cst8:((8:Nat):Int)=8:=rfl
theorem cst2:((2:Nat):Int)=2:=rfl
theorem ownP (acc:List (List Fld)) (f:List Fld):ownZ 1 ((acc++[f]).map fldsD)= .own false 1 (acc.map fldsD++[.sl (f.map Fld.d)]):=by
 rw[List.map_append,List.map_cons,List.map_nil,j4];rfl
theorem ownQ (acc:List (List UInt8)) (f:List UInt8):ownZ 1 ((acc++[f]).map r8)= .own false 1 (acc.map r8++[.sl (f.map byteD)]):=by
 rw[List.map_append,List.map_cons,List.map_nil,j4];rfl
abbrev splE (fs:List Fld) (i:Nat):List (Nat×V):=[(2,.ref 0 2 0),(4,.ref 0 4 0),(9,.d (.sl (fs.map Fld.d))),(10,.d (.int .i64 ((fs.length:Int)))),(11,.d (.int .i64 ((i:Int))))]
theorem tg (fs:List Fld) (i:Nat) (f:Fld) (p:Parts) (o:Option Fld) (hf:fs[i]? =some f) (hi:i<fs.length) (hn:fs.length≤1000000) (hw:f.wire≠2∨(f.num≠7∧f.num≠3∧f.num≠4∧f.num≠5)) (K:List Kf):
   go X_ai (.c (.loop ev)::K) ⟨splE fs i,zS 2++pS 4 p++boxF 6 o⟩=go X_ai (.c (.loop ev)::K) ⟨splE fs (i+1),zS 2++pS 4 p++boxF 6 (some f)⟩:=by
 have d_a:decide ((i:Int)<fs.length)=true:=by simp<;>omega
 have hS:=al 6 o;have hF:=br 6 o;generalize boxF 6 o=T at*
 conv=>lhs;rw[go_loop]
 obtain⟨num,wire,u,b,pl⟩:=f;simp only at hw;simp only[List.cons_append,List.nil_append,boxF];by_cases w:wire=2
 · subst w
   have hw:=hw.resolve_left yl;have e7:((num:Int)==7)=false:=by simp;omega
   have e3:((num:Int)==3)=false:=by simp;omega
   have e4:((num:Int)==4)=false:=by simp;omega
   have e5:((num:Int)==5)=false:=by simp;omega
   simp(disch:=first|exact yi|fail) only[go_sem,X_ai,d_a,hS,hF,bp,cd,hf,Fld.d,take5,len5,e7,e3,e4,e5,cst2]
   rfl
 · have dw:((wire:Int) !=2)=true:=by simp;omega
   simp(disch:=first|exact yi|fail) only[go_sem,X_ai,d_a,hS,hF,bp,cd,hf,Fld.d,take5,len5,dw]
   rfl
theorem split_3 (fs:List Fld) (i:Nat) (f:Fld) (p:Parts) (o:Option Fld) (hf:fs[i]? =some f) (hi:i<fs.length) (hn:fs.length≤1000000) (hw:f.wire=2) (hm:f.num=3) (hp:(aw f.b).2=0) (hb:f.b.length≤1000000) (hs:p.small 1000000) (K:List Kf):
  go X_ai (.c (.loop ev)::K) ⟨splE fs i,zS 2++pS 4 p++boxF 6 o⟩=go X_ai (.c (.loop ev)::K) ⟨splE fs (i+1),zS 2++pS 4 {p with a:=p.a++[(aw f.b).1]}++boxF 6 (some f)⟩:=by
 have d_a:decide ((i:Int)<fs.length)=true:=by simp<;>omega
 obtain⟨s1,s2,s3,s4,s5⟩:=hs;have hS:=al 6 o;have hF:=br 6 o;generalize boxF 6 o=T at*
 conv=>lhs;rw[go_loop]
 have hpa:=di f.b hb;unfold o9 at hpa;rw[hp] at hpa;obtain⟨num,wire,u,b,pl⟩:=f;simp only at hw hm hpa hp hb ⊢;subst hw;subst hm;generalize(aw b).1=q at *;obtain⟨pa,pb,pc,pe,pt⟩:=p;simp only at s1 s2 s3 s4 s5 ⊢;simp only[List.cons_append,List.nil_append,boxF,ownP];cases pa with
 | nil=>
  simp(disch:=first|exact yi|fail) only[go_sem,X_ai,d_a,hS,hF,bp,cd,hf,Fld.d,take5,len5,cst3,cst2,cst8,hpa,List.map_nil,bc,Int.reduceLE,Int.reduceLT,Int.reduceToNat,Nat.reduceMul,and_self,if_true,List.nil_append]
  rfl
 | cons y pa=>
  simp only[List.length_cons] at s1 s2 s3 s4 s5;simp(disch:=first|exact yi|fail) only[go_sem,X_ai,d_a,hS,hF,bp,cd,hf,Fld.d,take5,len5,cst3,cst2,cst8,hpa,List.map_cons,bo,Int.reduceLE,Int.reduceLT,Int.reduceToNat,Nat.reduceMul,and_self,if_true,List.length_cons,y9,List.cons_append]
  rfl
theorem split_4 (fs:List Fld) (i:Nat) (f:Fld) (p:Parts) (o:Option Fld) (hf:fs[i]? =some f) (hi:i<fs.length) (hn:fs.length≤1000000) (hw:f.wire=2) (hm:f.num=4) (hp:(aw f.b).2=0) (hb:f.b.length≤1000000) (hs:p.small 1000000) (K:List Kf):
  go X_ai (.c (.loop ev)::K) ⟨splE fs i,zS 2++pS 4 p++boxF 6 o⟩=go X_ai (.c (.loop ev)::K) ⟨splE fs (i+1),zS 2++pS 4 {p with b:=p.b++[(aw f.b).1]}++boxF 6 (some f)⟩:=by
 have d_a:decide ((i:Int)<fs.length)=true:=by simp<;>omega
 obtain⟨s1,s2,s3,s4,s5⟩:=hs;have hS:=al 6 o;have hF:=br 6 o;generalize boxF 6 o=T at*
 conv=>lhs;rw[go_loop]
 have hpa:=di f.b hb;unfold o9 at hpa;rw[hp] at hpa;obtain⟨num,wire,u,b,pl⟩:=f;simp only at hw hm hpa hp hb ⊢;subst hw;subst hm;generalize(aw b).1=q at *;obtain⟨pa,pb,pc,pe,pt⟩:=p;simp only at s1 s2 s3 s4 s5 ⊢;simp only[List.cons_append,List.nil_append,boxF,ownP];cases pb with
 | nil=>
  simp(disch:=first|exact yi|fail) only[go_sem,X_ai,d_a,hS,hF,bp,cd,hf,Fld.d,take5,len5,cst4,cst2,cst8,hpa,List.map_nil,bc,Int.reduceLE,Int.reduceLT,Int.reduceToNat,Nat.reduceMul,and_self,if_true,List.nil_append]
  rfl
 | cons y pb=>
  simp only[List.length_cons] at s1 s2 s3 s4 s5;simp(disch:=first|exact yi|fail) only[go_sem,X_ai,d_a,hS,hF,bp,cd,hf,Fld.d,take5,len5,cst4,cst2,cst8,hpa,List.map_cons,bo,Int.reduceLE,Int.reduceLT,Int.reduceToNat,Nat.reduceMul,and_self,if_true,List.length_cons,y9,List.cons_append]
  rfl
theorem split_5 (fs:List Fld) (i:Nat) (f:Fld) (p:Parts) (o:Option Fld) (hf:fs[i]? =some f) (hi:i<fs.length) (hn:fs.length≤1000000) (hw:f.wire=2) (hm:f.num=5) (hp:(aw f.b).2=0) (hb:f.b.length≤1000000) (hs:p.small 1000000) (K:List Kf):
  go X_ai (.c (.loop ev)::K) ⟨splE fs i,zS 2++pS 4 p++boxF 6 o⟩=go X_ai (.c (.loop ev)::K) ⟨splE fs (i+1),zS 2++pS 4 {p with c:=p.c++[(aw f.b).1]}++boxF 6 (some f)⟩:=by
 have d_a:decide ((i:Int)<fs.length)=true:=by simp<;>omega
 obtain⟨s1,s2,s3,s4,s5⟩:=hs;have hS:=al 6 o;have hF:=br 6 o;generalize boxF 6 o=T at*
 conv=>lhs;rw[go_loop]
 have hpa:=di f.b hb;unfold o9 at hpa;rw[hp] at hpa;obtain⟨num,wire,u,b,pl⟩:=f;simp only at hw hm hpa hp hb ⊢;subst hw;subst hm;generalize(aw b).1=q at *;obtain⟨pa,pb,pc,pe,pt⟩:=p;simp only at s1 s2 s3 s4 s5 ⊢;simp only[List.cons_append,List.nil_append,boxF,ownP];cases pc with
 | nil=>
  simp(disch:=first|exact yi|fail) only[go_sem,X_ai,d_a,hS,hF,bp,cd,hf,Fld.d,take5,len5,cst5,cst2,cst8,hpa,List.map_nil,bc,Int.reduceLE,Int.reduceLT,Int.reduceToNat,Nat.reduceMul,and_self,if_true,List.nil_append]
  rfl
 | cons y pc=>
  simp only[List.length_cons] at s1 s2 s3 s4 s5;simp(disch:=first|exact yi|fail) only[go_sem,X_ai,d_a,hS,hF,bp,cd,hf,Fld.d,take5,len5,cst5,cst2,cst8,hpa,List.map_cons,bo,Int.reduceLE,Int.reduceLT,Int.reduceToNat,Nat.reduceMul,and_self,if_true,List.length_cons,y9,List.cons_append]
  rfl
theorem split_7 (fs:List Fld) (i:Nat) (f:Fld) (p:Parts) (o:Option Fld) (hf:fs[i]? =some f) (hi:i<fs.length) (hn:fs.length≤1000000) (hw:f.wire=2) (hm:f.num=7) (hp:(aw f.b).2=0) (hb:f.b.length≤1000000) (hs:p.small 1000000) (K:List Kf):
  go X_ai (.c (.loop ev)::K) ⟨splE fs i,zS 2++pS 4 p++boxF 6 o⟩=go X_ai (.c (.loop ev)::K) ⟨splE fs (i+1),zS 2++pS 4 {p with e:=p.e++[(aw f.b).1],st:=p.st++[f.b]}++boxF 6 (some f)⟩:=by
 have d_a:decide ((i:Int)<fs.length)=true:=by simp<;>omega
 obtain⟨s1,s2,s3,s4,s5⟩:=hs;have hS:=al 6 o;have hF:=br 6 o;generalize boxF 6 o=T at*
 conv=>lhs;rw[go_loop]
 have hpa:=di f.b hb;unfold o9 at hpa;rw[hp] at hpa;obtain⟨num,wire,u,b,pl⟩:=f;simp only at hw hm hpa hp hb ⊢;subst hw;subst hm;generalize(aw b).1=q at *;obtain⟨pa,pb,pc,pe,pt⟩:=p;simp only at s1 s2 s3 s4 s5 ⊢;simp only[List.cons_append,List.nil_append,boxF,ownP,ownQ];cases pe with
 | nil=>
  cases pt with
  | nil=>
   simp(disch:=first|exact yi|fail) only[go_sem,X_ai,d_a,hS,hF,bp,cd,hf,Fld.d,take5,len5,cst7,cst2,cst8,hpa,List.map_nil,bc,Int.reduceLE,Int.reduceLT,Int.reduceToNat,Nat.reduceMul,and_self,if_true,List.nil_append]
   rfl
  | cons x pt=>
   simp only[List.length_cons] at s1 s2 s3 s4 s5;simp(disch:=first|exact yi|fail) only[go_sem,X_ai,d_a,hS,hF,bp,cd,hf,Fld.d,take5,len5,cst7,cst2,cst8,hpa,List.map_nil,List.map_cons,bc,bo,Int.reduceLE,Int.reduceLT,Int.reduceToNat,Nat.reduceMul,and_self,if_true,List.length_cons,y9,List.nil_append,List.cons_append]
   rfl
 | cons y pe=>
  cases pt with
  | nil=>
   simp only[List.length_cons] at s1 s2 s3 s4 s5;simp(disch:=first|exact yi|fail) only[go_sem,X_ai,d_a,hS,hF,bp,cd,hf,Fld.d,take5,len5,cst7,cst2,cst8,hpa,List.map_nil,List.map_cons,bc,bo,Int.reduceLE,Int.reduceLT,Int.reduceToNat,Nat.reduceMul,and_self,if_true,List.length_cons,y9,List.nil_append,List.cons_append]
   rfl
  | cons x pt=>
   simp only[List.length_cons] at s1 s2 s3 s4 s5;simp(disch:=first|exact yi|fail) only[go_sem,X_ai,d_a,hS,hF,bp,cd,hf,Fld.d,take5,len5,cst7,cst2,cst8,hpa,List.map_nil,List.map_cons,bc,bo,Int.reduceLE,Int.reduceLT,Int.reduceToNat,Nat.reduceMul,and_self,if_true,List.length_cons,y9,List.nil_append,List.cons_append]
   rfl
theorem th (fs:List Fld) (hn:fs.length≤100000) (hb:∀ f∈fs,f.b.length≤1000000) (hw:∀ f∈fs,wantF f) (K:List Kf):∀ (r:List Fld) (i:Nat) (p:Parts) (o:Option Fld),fs.drop i=r→i≤fs.length→p.small i→
  ∃ o',go X_ai (.c (.loop ev):: .b 0::K) ⟨splE fs i,zS 2++pS 4 p++boxF 6 o⟩=go X_ai K ⟨splE fs fs.length++[(12,.d (.bool (false)))],zS 2++pS 4 (splM r p)++boxF 6 o'⟩
 | [],i,p,o,hr,hi,hs=>by
  have:=iw hr;have:i=fs.length:=yj;subst this;refine⟨o,?_⟩;have d_a:decide ((fs.length:Int)<fs.length)=false:=by simp<;>omega
  have hS:=al 6 o;rw[splM];generalize boxF 6 o=T at *;rw[go_loop];simp only[List.cons_append,List.nil_append];simp(disch:=first|exact yi|fail) only[go_sem,X_ai,d_a,hS,bp]
 | f::r,i,p,o,hr,hi,hs=>by
  obtain⟨h1,h2,h3⟩:=ll hr;have hm:f∈fs:=List.mem_of_getElem? h2;have hp:p.small 1000000:=by obtain⟨a,b,c,d,e⟩:=hs;exact⟨by omega,by omega,by omega,by omega,by omega⟩
  rw[splM];obtain⟨o',ih⟩:=th fs hn hb hw K r (i+1) (p.add f) (some f) h3 h1 (Parts.small_add hs f);refine⟨o',Eq.trans ?_ ih⟩;have hlt:i<fs.length:=h1;unfold Parts.add;by_cases w:f.wire=2
  · rw[if_neg (by simp[w])]
    by_cases n7:f.num=7
    · rw[if_pos n7];exact split_7 fs i f p o h2 hlt yj w n7 (hw f hm w (.inl n7)) (hb f hm) hp _
    · rw[if_neg n7]
      by_cases n3:f.num=3
      · rw[if_pos n3];exact split_3 fs i f p o h2 hlt yj w n3 (hw f hm w (.inr (.inl n3))) (hb f hm) hp _
      · rw[if_neg n3]
        by_cases n4:f.num=4
        · rw[if_pos n4];exact split_4 fs i f p o h2 hlt yj w n4 (hw f hm w (.inr (.inr (.inl n4)))) (hb f hm) hp _
        · rw[if_neg n4]
          by_cases n5:f.num=5
          · rw[if_pos n5];exact split_5 fs i f p o h2 hlt yj w n5 (hw f hm w (.inr (.inr (.inr n5)))) (hb f hm) hp _
          · rw[if_neg n5];exact tg fs i f p o h2 hlt yj (.inr ⟨n7,n3,n4,n5⟩) _
  · rw[if_pos w];exact tg fs i f p o h2 hlt yj (.inl w) _
def jr (p:Parts):D:= .agg [.sl [],.sl [],.sl [],.sl (p.a.map fldsD),.sl (p.b.map fldsD),.sl (p.c.map fldsD),.sl [],.sl (p.e.map fldsD),.sl (p.st.map r8)]
def oa:Parts:=⟨[],[],[],[],[]⟩
theorem len9 (a b c d e f g h i:D):[a,b,c,d,e,f,g,h,i].length=9:=rfl
theorem sx (fs:List Fld) (hn:fs.length≤100000) (hb:∀ f∈fs,f.b.length≤1000000) (hw:∀ f∈fs,wantF f):evL cfg n_ai 0 [.d (.sl (fs.map Fld.d))] []=some (.d (.tup [jr (splM fs oa),.int .i64 0]),[]):=by
 rw[o_ai];obtain⟨o,h⟩:=th fs hn hb hw [.c (.seq aft .ret)] fs 0 oa none rfl (zl _) ⟨zl _,zl _,zl _,zl _,zl _⟩;generalize splM fs oa=q at *;simp only[oa,List.map_nil,bc,aet,List.append_nil,List.cons_append,List.nil_append,splE] at h;simp(disch:=first|exact yi|fail) only[go_sem,X_ai,c_ai,y9]
 refine h.trans ?_;clear h;have hS:=al 6 o;have hL:=cq 6 o;generalize boxF 6 o=T at *;obtain⟨pa,pb,pc,pe,pt⟩:=q;unfold jr;cases pa<;>cases pb<;>cases pc<;>cases pe<;>cases pt<;>simp only[List.map_nil,List.map_cons,bc,bo]<;>
 simp(disch:=first|exact yi|fail) only[go_sem,X_ai,hS,hL,len9]<;>rfl
