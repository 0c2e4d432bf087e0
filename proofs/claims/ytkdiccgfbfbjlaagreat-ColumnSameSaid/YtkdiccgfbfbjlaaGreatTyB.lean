import Derived.Test.YtkdiccgfbfbjlaaGreatTyA
set_option linter.unusedSectionVars false
namespace Go.Proofs.YtkdiccgfbfbjlaaGreat
open Go Go.Ev
variable [Sh]
set_option maxHeartbeats 2000000
theorem aj7 (t:Ty) (hn:t.names.length<2 ^ 63) {s:Tx} {i:Nat} (hs:t.names[i]? =some s) {K:List Kf}:∀ (q:List Tx) (k:Nat),(t.names.take i).drop k=q→k≤i→i≤t.names.length→
  go Cd (.c (.loop aan):: .b 3::K) ⟨[(1,.ref 0 1 0),(5,.d (.int .i64 ((i:Int)))),(6,.d (.int .i64 ((k:Int))))],BH 1 t⟩=
    if HK s q then some (.d (.int .i64 (1)),[]) else go Cd K ⟨[(1,.ref 0 1 0),(5,.d (.int .i64 ((i:Int)))),(6,.d (.int .i64 ((i:Int)))),(91,.d (.bool (false)))],BH 1 t⟩
 | [],k,hr,hk,hi=>by
  have h1:=aq hr;rw[adp] at h1;have:k=i:=abu;subst this;have d_a:decide ((k:Int)<k)=false:=by simp<;>omega
  rw[go_loop,if_neg (by simp[HK])]
  simp(disch:=first|exact abt|fail) only[go_sem,Cd,d_a,BH]
 | x::q,k,hr,hk,hi=>by
  obtain⟨hlt,hc,hr'⟩:=ba hr;rw[adp] at hlt;have hc':t.names[k]? =some x:=by rw[List.getElem?_take_of_lt abu] at hc;exact hc
  have d_a:decide ((k:Int)<i)=true:=by simp<;>omega
  have e1:(k:Int)+1=((k+1:Nat):Int):=abu;have e2:HK s (x::q)=((x==s)||HK s q):=rfl;rw[go_loop,e2];rcases ab2 (x==s) with h|h
  · rw[if_pos (by rw[h];rfl)]
    simp(disch:=first|exact abt|fail) only[go_sem,Cd,d_a,hc',hs,BH,h]
  · have ih:=aj7 t hn hs (K:=K) q (k+1) hr' abu hi
    rw[h,Bool.false_or,← ih];simp(disch:=first|exact abt|fail) only[go_sem,Cd,d_a,hc',hs,BH,h,e1]
theorem aj6 (t:Ty) (hn:t.names.length<2 ^ 63) {K:List Kf}:∀ (r:List Tx) (i:Nat) (ex:List (Nat×V)),t.names.drop i=r→i≤t.names.length→
  go Cd (.c (.loop arv):: .b 1::K) ⟨[(1,.ref 0 1 0),(5,.d (.int .i64 ((i:Int))))],BH 1 t⟩=
    if DK t.names i r then go Cd K ⟨[(1,.ref 0 1 0),(5,.d (.int .i64 ((t.names.length:Int)))),(71,.d (.bool (false)))],BH 1 t⟩ else some (.d (.int .i64 (1)),[])
 | [],i,ex,hr,hi=>by
  have h1:=aq hr;have:i=t.names.length:=abu;subst this;have d_a:decide ((t.names.length:Int)<t.names.length)=false:=by simp<;>omega
  rw[go_loop,DK,if_pos rfl];simp(disch:=first|exact abt|fail) only[go_sem,Cd,d_a,BH]
 | s::r,i,ex,hr,hi=>by
  obtain⟨hlt,hc,hr'⟩:=ba hr;have d_a:decide ((i:Int)<t.names.length)=true:=by simp<;>omega
  have e1:(i:Int)+1=((i+1:Nat):Int):=abu;have hin:=fun K=>aj7 t hn hc (K:=K) (t.names.take i) 0 rfl (aco _) abu
  simp only[BH,nc0] at hin;rw[go_loop,DK];rcases ab2 (s==[]) with x|x
  · rw[x]
    simp(disch:=first|exact abt|fail) only[go_sem,Cd,d_a,hc,BH,x]
  · rcases ab2 (decide ((s.length:Int)>100)) with d_y|d_y<;>have p_y:=d_y<;>simp only[ab4,ab3,acg,ab6,ne_eq] at p_y
    · rw[x,d_y]
      simp(disch:=first|exact abt|fail) only[go_sem,Cd,d_a,hc,BH,x,d_y]
    · cases hh:HK s (t.names.take i) with
      | true=>
       simp only[hh,if_true] at hin;rw[x,d_y];simp(disch:=first|exact abt|fail) only[go_sem,Cd,d_a,hc,BH,x,d_y,hin]
      | false=>
       simp only[hh,acb,if_false] at hin;have ih:=aj6 t hn (K:=K) r (i+1) ex hr' abu;simp only[BH] at ih;rw[x,d_y];simp(disch:=first|exact abt|fail) only[go_sem,Cd,d_a,hc,BH,x,d_y,hin,e1,ih]
theorem a9m (k:Int):k=10∨k=11∨k=12∨k=13∨k=14∨k=16∨k=17∨((k==10)=false∧(k==11)=false∧(k==12)=false∧(k==13)=false∧(k==14)=false∧(k==16)=false∧(k==17)=false):=by
 simp only[ab6,ne_eq];omega
theorem xu (t:Ty) (hn:t.names.length<2 ^ 63):evL cfg Rt 0 [.d t.d] []=some (.d (.int .i64 (B1 t)),[]):=by
 have hl:=fun K=>aj6 t hn (K:=K) t.names 0 [] rfl (aco _)
 simp only[BH,nc0] at hl;rw[o_ab];unfold B1 Fa Hg;cases hq:DK t.names 0 t.names with
 | true=>
  simp only[hq,if_true] at hl;rcases a9m t.kind with hk|hk|hk|hk|hk|hk|hk|⟨a,b,c,d,e,f,g⟩
  · simp only[hk] at hl ⊢
    simp(disch:=first|exact abt|fail) only[go_sem,Cd,D4,hl,hk,bne]
    repeat' ((try rw[A7])<;>split<;>rename_i hh<;>(try simp only[ack,acj,acd,ace] at hh)<;>(try simp(disch:=first|exact abt|fail) only[*,go_sem,hl,hk,bne]))
  · simp only[hk] at hl ⊢
    simp(disch:=first|exact abt|fail) only[go_sem,Cd,D4,hl,hk,bne]
    repeat' ((try rw[A7])<;>split<;>rename_i hh<;>(try simp only[ack,acj,acd,ace] at hh)<;>(try simp(disch:=first|exact abt|fail) only[*,go_sem,hl,hk,bne]))
  · simp only[hk] at hl ⊢
    simp(disch:=first|exact abt|fail) only[go_sem,Cd,D4,hl,hk,bne]
    repeat' ((try rw[A7])<;>split<;>rename_i hh<;>(try simp only[ack,acj,acd,ace] at hh)<;>(try simp(disch:=first|exact abt|fail) only[*,go_sem,hl,hk,bne]))
  · simp only[hk] at hl ⊢
    simp(disch:=first|exact abt|fail) only[go_sem,Cd,D4,hl,hk,bne]
    repeat' ((try rw[A7])<;>split<;>rename_i hh<;>(try simp only[ack,acj,acd,ace] at hh)<;>(try simp(disch:=first|exact abt|fail) only[*,go_sem,hl,hk,bne]))
  · simp only[hk] at hl ⊢
    simp(disch:=first|exact abt|fail) only[go_sem,Cd,D4,hl,hk,bne]
    repeat' ((try rw[A7])<;>split<;>rename_i hh<;>(try simp only[ack,acj,acd,ace] at hh)<;>(try simp(disch:=first|exact abt|fail) only[*,go_sem,hl,hk,bne]))
  · simp only[hk] at hl ⊢
    simp(disch:=first|exact abt|fail) only[go_sem,Cd,D4,hl,hk,bne]
    repeat' ((try rw[A7])<;>split<;>rename_i hh<;>(try simp only[ack,acj,acd,ace] at hh)<;>(try simp(disch:=first|exact abt|fail) only[*,go_sem,hl,hk,bne]))
  · simp only[hk] at hl ⊢
    simp(disch:=first|exact abt|fail) only[go_sem,Cd,D4,hl,hk,bne]
    repeat' ((try rw[A7])<;>split<;>rename_i hh<;>(try simp only[ack,acj,acd,ace] at hh)<;>(try simp(disch:=first|exact abt|fail) only[*,go_sem,hl,hk,bne]))
  · simp(disch:=first|exact abt|fail) only[go_sem,Cd,D4,hl,a,b,c,d,e,f,g,bne]
    repeat' ((try rw[A7])<;>split<;>rename_i hh<;>(try simp only[ack,acj,acd,ace] at hh)<;>(try simp(disch:=first|exact abt|fail) only[*,go_sem,hl,a,b,c,d,e,f,g,bne]))
 | false=>
  simp only[hq,acb,if_false] at hl;rcases a9m t.kind with hk|hk|hk|hk|hk|hk|hk|⟨a,b,c,d,e,f,g⟩
  · simp only[hk] at hl ⊢
    simp(disch:=first|exact abt|fail) only[go_sem,Cd,D4,hl,hk,bne]
    repeat' ((try rw[A7])<;>split<;>rename_i hh<;>(try simp only[ack,acj,acd,ace] at hh)<;>(try simp(disch:=first|exact abt|fail) only[*,go_sem,hl,hk,bne]))
  · simp only[hk] at hl ⊢
    simp(disch:=first|exact abt|fail) only[go_sem,Cd,D4,hl,hk,bne]
    repeat' ((try rw[A7])<;>split<;>rename_i hh<;>(try simp only[ack,acj,acd,ace] at hh)<;>(try simp(disch:=first|exact abt|fail) only[*,go_sem,hl,hk,bne]))
  · simp only[hk] at hl ⊢
    simp(disch:=first|exact abt|fail) only[go_sem,Cd,D4,hl,hk,bne]
    repeat' ((try rw[A7])<;>split<;>rename_i hh<;>(try simp only[ack,acj,acd,ace] at hh)<;>(try simp(disch:=first|exact abt|fail) only[*,go_sem,hl,hk,bne]))
  · simp only[hk] at hl ⊢
    simp(disch:=first|exact abt|fail) only[go_sem,Cd,D4,hl,hk,bne]
    repeat' ((try rw[A7])<;>split<;>rename_i hh<;>(try simp only[ack,acj,acd,ace] at hh)<;>(try simp(disch:=first|exact abt|fail) only[*,go_sem,hl,hk,bne]))
  · simp only[hk] at hl ⊢
    simp(disch:=first|exact abt|fail) only[go_sem,Cd,D4,hl,hk,bne]
    repeat' ((try rw[A7])<;>split<;>rename_i hh<;>(try simp only[ack,acj,acd,ace] at hh)<;>(try simp(disch:=first|exact abt|fail) only[*,go_sem,hl,hk,bne]))
  · simp only[hk] at hl ⊢
    simp(disch:=first|exact abt|fail) only[go_sem,Cd,D4,hl,hk,bne]
    repeat' ((try rw[A7])<;>split<;>rename_i hh<;>(try simp only[ack,acj,acd,ace] at hh)<;>(try simp(disch:=first|exact abt|fail) only[*,go_sem,hl,hk,bne]))
  · simp only[hk] at hl ⊢
    simp(disch:=first|exact abt|fail) only[go_sem,Cd,D4,hl,hk,bne]
    repeat' ((try rw[A7])<;>split<;>rename_i hh<;>(try simp only[ack,acj,acd,ace] at hh)<;>(try simp(disch:=first|exact abt|fail) only[*,go_sem,hl,hk,bne]))
  · simp(disch:=first|exact abt|fail) only[go_sem,Cd,D4,hl,a,b,c,d,e,f,g,bne]
    repeat' ((try rw[A7])<;>split<;>rename_i hh<;>(try simp only[ack,acj,acd,ace] at hh)<;>(try simp(disch:=first|exact abt|fail) only[*,go_sem,hl,a,b,c,d,e,f,g,bne]))
theorem ph (deep:Nat) (n:Int) (t:Ty):BP deep n t=if decide ((deep:Int)>16)||decide (n≥100) then(n,4) else if B1 t !=0 then(n,B1 t) else Cq (deep+1) (n+1) t.kids:=by
 cases t with
 |mk k ns ks l p s=>rw[BP];rfl
theorem n8 (deep:Nat) (n:Int):Cq deep n []=(n,0):=by rw[Cq]
theorem ft (deep:Nat) (n:Int) (k:Ty) (r:List Ty):Cq deep n (k::r)=if(BP deep n k).2 !=0 then BP deep n k else Cq deep (BP deep n k).1 r:=by rw[Cq]
theorem zz:∀ (m:Nat) (t:Ty) (deep:Nat) (n:Int),t.size≤m→n≤100→n≤(BP deep n t).1∧(BP deep n t).1≤100
 |0,t,deep,n,h,hn=>by have:=t.size_pos;omega
 | m+1,t,deep,n,h,hn=>by
  rw[ph];split
  · exact⟨Int.le_refl _,hn⟩
  · rename_i hc
    simp only[acu,ab4,not_or] at hc;split
    · exact⟨Int.le_refl _,hn⟩
    · have key:∀ (r:List Ty) (n:Int),(∀ k∈r,k.size≤m)→n≤100→n≤(Cq (deep+1) n r).1∧(Cq (deep+1) n r).1≤100:=by
       intro r
       induction r with
       |nil=>intro n _ h;rw[n8];exact⟨Int.le_refl _,h⟩
       | cons k r ih=>
        intro n hk h;have h1:=zz m k (deep+1) n (hk k abw) h;rw[ft];split
        · exact h1
        · have h2:=ih (BP (deep+1) n k).1 (fun x hx=>hk x (by simp[hx])) h1.2
          exact⟨by omega,h2.2⟩
      have:=key t.kids (n+1) (fun k hk=>by have:=Ty.A8 hk;omega) abu
      exact⟨by omega,this.2⟩
def u6:Nat→Ty→Prop
 |0,_=>True
 |m+1,t=>t.names.length<2 ^ 63∧t.kids.length<2 ^ 63∧∀ k∈t.kids,u6 m k
theorem jq (t:Ty) (deep:Nat) (hd:deep≤16) (hk:t.kids.length<2 ^ 63) (IH:∀ k∈t.kids,∀ n:Int,0≤n→n≤100→evL cfg HF 0 [.d k.d,.d (.int .i64 (((deep+1:Nat):Int))),.d (.int .i64 (n))] []=some (.d (.tup [.int .i64 (BP (deep+1) n k).1,.int .i64 (BP (deep+1) n k).2]),[])):∀ (r:List Ty) (i:Nat) (n:Int),t.kids.drop i=r→i≤t.kids.length→0≤n→n≤100→
  go HW [.c (.loop arq),.b 0,.c (.seq an2 .ret)] ⟨[(1,.d (.int .i64 ((deep:Int)))),(2,.d (.int .i64 (n))),(3,.ref 0 3 0),(9,.d (.int .i64 ((i:Int))))],BH 3 t⟩=some (.d (.tup [.int .i64 (Cq (deep+1) n r).1,.int .i64 (Cq (deep+1) n r).2]),[])
 | [],i,n,hr,hi,h1,h2=>by
  have:=aq hr;have:i=t.kids.length:=abu;subst this;have d_a:decide ((t.kids.length:Int)<t.kids.length)=false:=by simp<;>omega
  rw[go_loop,n8];simp(disch:=first|exact abt|fail) only[go_sem,HW,d_a,BH]
 | k::r,i,n,hr,hi,h1,h2=>by
  obtain⟨hlt,hc,hr'⟩:=ba hr;have hb:=zz _ k (deep+1) n (ab5 _) h2;have hf:=IH k (List.mem_of_getElem? hc) n h1 h2;have d_a:decide ((i:Int)<t.kids.length)=true:=by simp<;>omega
  have e1:(i:Int)+1=((i+1:Nat):Int):=abu;have e2:(deep:Int)+1=((deep+1:Nat):Int):=abu;rw[go_loop,ft];generalize BP (deep+1) n k=q at *;rcases ab2 (q.2 !=0) with x|x
  · simp(disch:=first|exact abt|fail) only[go_sem,HW,d_a,hc,e2,hf,BH,x]
  · have ih:=jq t deep hd hk IH r (i+1) q.1 hr' abu abu hb.2
    simp only[BH] at ih;simp(disch:=first|exact abt|fail) only[go_sem,HW,d_a,hc,e2,hf,BH,x,e1,ih]
theorem j1:∀ (m:Nat) (t:Ty) (deep:Nat) (n:Int),t.size≤m→u6 m t→deep≤17→0≤n→n≤100→evL cfg HF 0 [.d t.d,.d (.int .i64 ((deep:Int))),.d (.int .i64 (n))] []=some (.d (.tup [.int .i64 (BP deep n t).1,.int .i64 (BP deep n t).2]),[])
 |0,t,deep,n,h,_,_,_,_=>by have:=t.size_pos;omega
 | m+1,t,deep,n,h,hs,hd,h1,h2=>by
  obtain⟨s1,s2,s3⟩:=hs;have ho:=xu t s1;rw[o_aq,ph];rcases ab2 (decide ((deep:Int)>16)) with d_a|d_a<;>have p_a:=d_a<;>simp only[ab4,ab3,acg,ab6,ne_eq] at p_a
  · simp(disch:=first|exact abt|fail) only[go_sem,HW,QD,d_a]
  · rcases ab2 (decide (n≥100)) with d_b|d_b<;>have p_b:=d_b<;>simp only[ab4,ab3,acg,ab6,ne_eq] at p_b
    · simp(disch:=first|exact abt|fail) only[go_sem,HW,QD,d_a,d_b]
    · rcases ab2 (B1 t !=0) with x|x
      · simp(disch:=first|exact abt|fail) only[go_sem,HW,QD,d_a,d_b,ho,x]
      · have IH:∀ k∈t.kids,∀ n:Int,0≤n→n≤100→evL cfg HF 0 [.d k.d,.d (.int .i64 (((deep+1:Nat):Int))),.d (.int .i64 (n))] []=some (.d (.tup [.int .i64 (BP (deep+1) n k).1,.int .i64 (BP (deep+1) n k).2]),[]):=
         fun k hk n g1 g2=>j1 m k (deep+1) n (by have:=Ty.A8 hk;omega) (s3 k hk) abu g1 g2
        have hl:=jq t deep abu s2 IH t.kids 0 (n+1) rfl (aco _) abu abu;simp only[BH,nc0] at hl;simp(disch:=first|exact abt|fail) only[go_sem,HW,QD,d_a,d_b,ho,x,hl]
theorem rz (t:Ty) (hs:u6 t.size t):evL cfg UT 0 [.d t.d] []=some (.d (.int .i64 ((BP 1 0 t).2)),[]):=by
 have h1:=j1 _ t 1 0 (ab5 _) hs abu abu abu;rw[show((1:Nat):Int)=1 from rfl] at h1
 rw[o_dj];simp(disch:=first|exact abt|fail) only[go_sem,X_dj,Yl,h1]
