import Derived.Test.YtmeohcmbohicoaaGreatDoorPbA
namespace Go.Proofs.YtmeohcmbohicoaaGreatDoor
open Go Go.Ev
set_option maxHeartbeats 4000000
theorem awu {l:List UInt8} {p:Nat} (h:(cy l p).2.2=0) (hp:p≤l.length):1≤(cy l p).2.1∧p+(cy l p).2.1≤l.length:=by
 have h1:=fun h=>sw (l:=l) (p:=p) h hp
 unfold cy at h ⊢;simp only at h ⊢;by_cases he:(varM 0 0 (l.drop p)).2.2≠0
 · rw[if_pos he] at h;exact absurd h he
 rw[if_neg he] at h ⊢;obtain⟨_,a2,a3,_⟩:=h1 (Decidable.not_not.1 he);generalize varM 0 0 (l.drop p)=k at *;obtain⟨k1,n,e⟩:=k;simp only at *;by_cases hq:k1 / 8<1∨k1 / 8>536870911
 · rw[if_pos hq] at h;exact absurd h vq
 rw[if_neg hq] at h ⊢;have h2:=fun h=>sw (l:=l) (p:=p+n) h a3
 generalize varM 0 0 (l.drop (p+n))=v at *;obtain⟨v1,m,e2⟩:=v;simp only at *;by_cases w0:k1 % 8=0
 · rw[if_pos w0] at h ⊢
   by_cases hz:e2≠0
   · rw[if_pos hz] at h;exact absurd h hz
   rw[if_neg hz];obtain⟨_,b2,b3,_⟩:=h2 (Decidable.not_not.1 hz);simp only;omega
 rw[if_neg w0] at h ⊢;by_cases w2:k1 % 8=2
 · rw[if_pos w2] at h ⊢
   by_cases hz:e2≠0
   · rw[if_pos hz] at h;exact absurd h hz
   rw[if_neg hz] at h ⊢;obtain⟨_,b2,b3,_⟩:=h2 (Decidable.not_not.1 hz);by_cases hs:v1>l.length-p-(n+m)
   · rw[if_pos hs] at h;exact absurd h vq
   rw[if_neg hs];simp only;omega
 rw[if_neg w2] at h ⊢;by_cases w1:k1 % 8=1
 · rw[if_pos w1] at h ⊢
   by_cases hs:8>l.length-p-n
   · rw[if_pos hs] at h;exact absurd h vq
   rw[if_neg hs];simp only;omega
 rw[if_neg w1] at h ⊢;by_cases w5:k1 % 8=5
 · rw[if_pos w5] at h ⊢
   by_cases hs:4>l.length-p-n
   · rw[if_pos hs] at h;exact absurd h vq
   rw[if_neg hs];simp only;omega
 rw[if_neg w5] at h;exact absurd h vq
def m6 (r:List Fld×Nat):V:= .d (.tup [.sl (r.1.map Fld.d),.int .i64 (r.2:Int)])
def ownZ (z:Nat) (acc:List D):V:=if acc.isEmpty then .d .nilS else .own false z acc
theorem af (z:Nat):ownZ z []= .d .nilS:=rfl
theorem ak (z:Nat) (d:D) (r:List D):ownZ z (d::r)= .own false z (d::r):=rfl
theorem bt (z:Nat) (r:List D) (d:D):ownZ z (r++[d])= .own false z (r++[d]):=by cases r<;>rfl
theorem ownF (acc:List Fld) (f:Fld):ownZ 5 ((acc++[f]).map Fld.d)= .own false 5 (acc.map Fld.d++[f.d]):=by
 rw[List.map_append,List.map_cons,List.map_nil,bt]
def boxF (k:Nat):Option Fld→List (Cel×V)
 |none=>[]
 |some f=>[(⟨0,k,0⟩,.d (.int .i64 ((f.num:Int)))),(⟨0,k,1⟩,.d (.int .i64 ((f.wire:Int)))),(⟨0,k,2⟩,.d (.int .u64 ((f.u:Int)))),(⟨0,k,3⟩,.d (.sl ((f.b).map byteD))),(⟨0,k,4⟩,.d (.int .i64 ((f.pl:Int))))]
theorem lm (k:Nat):boxF k none=[]:=rfl
theorem ai (k:Nat) (o:Option Fld):freeM 0 k (boxF k o)=[]:=by
 cases o with
 |none=>rfl
 |some f=>simp only[boxF,jq,lf,true_and,if_true]
theorem ac (k:Nat) (o:Option Fld):settleM 0 (boxF k o)=boxF k o:=by cases o<;>rfl
theorem aj (k:Nat) (o:Option Fld):leaveM 0 (boxF k o)=[]:=by cases o<;>rfl
theorem nz:decide ((0:Int)≥4096)=false:=rfl
theorem kr {l:List UInt8} (hl:l.length≤262144):∀ (n p:Nat) (acc:List Fld) (o:Option Fld),l.length-p<n→p≤l.length→acc.length≤4096→
  go X_bh [.c (.loop akj),.b 0,.c (.seq agh .ret)] ⟨[(0,.d (.sl ((l).map byteD))),(4,ownZ 5 (acc.map Fld.d)),(5,.d (.int .i64 ((p:Int))))],boxF 6 o⟩=some (m6 (i4 l n p acc),[])
 |0,p,acc,o,hn,hp,ha=>absurd hn (Nat.not_lt_zero _)
 | n+1,p,acc,o,hn,hp,ha=>by
  rw[i4];rw[go_loop];by_cases h:p<l.length
  · rw[if_pos h]
    have d_a:decide ((p:Int)<l.length)=true:=by simp<;>omega
    by_cases hm:4096≤acc.length
    · rw[if_pos hm]
      have d_b:decide ((acc.length:Int)≥4096)=true:=by simp<;>omega
      cases acc with
      |nil=>simp at hm
      | cons x acc=>
        simp only[List.length_cons] at d_b;simp(disch:=first|exact vm|fail) only[go_sem,X_bh,ai,ac,aj,d_a,d_b,List.map_cons,ak,List.length_cons,vu]
        rfl
    · rw[if_neg hm]
      have d_b:decide ((acc.length:Int)≥4096)=false:=by simp<;>omega
      have hf:=aeo hp hl;have hfit:=fun h=>awu (l:=l) (p:=p) h hp
      by_cases he:(cy l p).2.2≠0
      · rw[if_pos he]
        generalize cy l p=r at *;obtain⟨f,n,e⟩:=r;simp only at he ⊢;have d1:((e:Int) !=0)=true:=by simp;omega
        unfold na Fld.d at hf;cases acc with
        | nil=>
         simp(disch:=first|exact vm|fail) only[go_sem,X_bh,ai,ac,aj,d_a,nz,hf,d1,List.map_nil,af]
         rfl
        | cons x acc=>
         simp only[List.length_cons] at d_b;simp(disch:=first|exact vm|fail) only[go_sem,X_bh,ai,ac,aj,d_a,d_b,hf,d1,List.map_cons,ak,vu]
         rfl
      · rw[if_neg he]
        have he:=Decidable.not_not.1 he;obtain⟨f1,f2⟩:=hfit he;have ih:=kr hl n (p+(cy l p).2.1) (acc++[(cy l p).1]) (some (cy l p).1) vn f2 (by simp;omega)
        rw[ownF] at ih;rw[← ih];generalize cy l p=r at *;obtain⟨f,n,e⟩:=r;simp only at he f1 f2 ⊢;subst he;unfold na Fld.d at hf;rw[Int.natCast_add];cases acc with
        | nil=>
         simp(disch:=first|exact vm|fail) only[go_sem,X_bh,ai,ac,aj,d_a,nz,hf,List.map_nil,af,Fld.d,List.nil_append]
         rfl
        | cons x acc=>
         simp only[List.length_cons] at d_b hm;rw[List.map_cons];generalize x.d=y;simp(disch:=first|exact vm|fail) only[go_sem,X_bh,ai,ac,aj,d_a,d_b,hf,List.map_cons,ak,vu,Fld.d,List.cons_append]
         rfl
  · rw[if_neg h]
    have d_a:decide ((p:Int)<l.length)=false:=by simp<;>omega
    cases acc with
    | nil=>
      simp(disch:=first|exact vm|fail) only[go_sem,X_bh,ai,ac,aj,d_a,List.map_nil,af]
      rfl
    | cons x acc=>
      simp(disch:=first|exact vm|fail) only[go_sem,X_bh,ai,ac,aj,d_a,List.map_cons,ak]
      rfl
theorem cw (l:List UInt8):l.length≤1000000→evL cfg n_bh 0 [.d (.sl ((l).map byteD))] []=some (m6 (a5 l),[]):=by
 intro hl;rw[o_bh];unfold a5;by_cases h:l.length>262144
 · rw[if_pos h]
   have d_a:decide ((l.length:Int)>262144)=true:=by simp<;>omega
   simp(disch:=first|exact vm|fail) only[go_sem,X_bh,c_bh,d_a]
   rfl
 · rw[if_neg h]
   have d_a:decide ((l.length:Int)>262144)=false:=by simp<;>omega
   have:=kr (l:=l) vn (l.length+1) 0 [] none vn vn vq;rw[List.map_nil,af,lm] at this;simp(disch:=first|exact vm|fail) only[go_sem,X_bh,c_bh,d_a]
   exact this
