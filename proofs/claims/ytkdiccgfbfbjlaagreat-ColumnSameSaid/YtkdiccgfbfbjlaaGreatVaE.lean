import Derived.Test.YtkdiccgfbfbjlaaGreatCode
import Derived.Test.YtkdiccgfbfbjlaaGreatL9
set_option linter.unusedSectionVars false
namespace Go.Proofs.YtkdiccgfbfbjlaaGreat
open Go Go.Ev
variable [Sh]
set_option maxHeartbeats 4000000
theorem ul {v:Int} (h:inI v):evL cfg RG 0 [.d (.int .i64 (v))] []=some (.d (.int .u64 ((v.natAbs:Int))),[]):=by
 rw[o_dg];unfold inI at h;rcases ab2 (decide (v<0)) with d_a|d_a<;>have p_a:=d_a<;>simp only[ab4,ab3,acg,ab6,ne_eq] at p_a<;>simp(disch:=first|exact abt|fail) only[go_sem,X_dg,Yn,d_a,wv]<;>first|done|with_reducible rfl| (simp only[Option.some.injEq,Prod.mk.injEq,V.d.injEq,D.int.injEq,D.tup.injEq,D.bool.injEq,List.cons.injEq,and_true,true_and];omega)
theorem ip:∀ (k n:Nat) (s:List UInt8),n<10 ^ (k+1)→n<18446744073709551616→s.length+k≤100→
  go WM [.c (.loop bnz),.b 0,.c (.seq bep .ret)] ⟨[(0,.d (.int .u64 ((n:Int)))),(3,.d (.str (UInt8.ofNat (48+n % 10)::s)))],[]⟩=some (.d (.str (H7 (k+1) n++s)),[])
 | k,n,s,h,h',hs=>by
  by_cases c:n<10
  · have d_a:decide ((n:Int)≥10)=false:=by simp<;>omega
    rw[go_loop,ak4,if_pos c];simp(disch:=first|exact abt|fail) only[go_sem,WM,d_a,show n % 10=n by omega]
  · cases k with
    |zero=>simp at h;omega
    | succ k=>
     have d_a:decide ((n:Int)≥10)=true:=by simp<;>omega
     have ih:=ip k (n / 10) (UInt8.ofNat (48+n % 10)::s) (by rw[Nat.pow_succ] at h;omega) abu (by simp only[List.length_cons];omega)
     have e1:((n:Int)).tdiv 10=((n / 10:Nat):Int):=by rw[tdp abu];omega
     have e2:(((n / 10:Nat):Int)).tmod 10=((n / 10 % 10:Nat):Int):=by rw[tmp abu];omega
     have e3:(48+((n / 10 % 10:Nat):Int)).toNat=48+n / 10 % 10:=abu;rw[go_loop,ak4,if_neg c,ac4];simp(disch:=first|exact abt|fail) only[go_sem,WM,d_a,p6,i6,e1,e2,bcg,e3]
     exact ih
theorem qi {u:Nat} (h:u<18446744073709551616):evL cfg RU 0 [.d (.int .u64 ((u:Int)))] []=some (.d (.str (H7 20 u)),[]):=by
 rw[o_cf];have hl:=ip 19 u [] abu h abw;rw[List.append_nil] at hl;have e2:((u:Int)).tmod 10=((u % 10:Nat):Int):=by rw[tmp abu];omega
 have e3:(48+((u % 10:Nat):Int)).toNat=48+u % 10:=abu;simp(disch:=first|exact abt|fail) only[go_sem,WM,Yw,i6,e2,bcg,e3,hl]
theorem jr {v:Int} (hv:inI v):evL cfg RD 0 [.d (.int .i64 (v))] []=some (.d (.int .i64 ((lV v.natAbs:Int))),[]):=by
 rw[o_dn];have z1:=ul hv;have f1:=qi (u:=v.natAbs) (by unfold inI at hv;omega)
 simp(disch:=first|exact abt|fail) only[go_sem,X_dn,Yi,z1,f1,lV]
theorem j2 (s n:Int):evL cfg RA 0 [.d (.int .i64 (s)),.d (.int .i64 (n))] []=some (.d (.bool (GO s n)),[]):=by
 rw[o_dw];have e:decide (n<1000000000)=decide (n≤999999999):=decide_eq_decide.mpr abu;simp(disch:=first|exact abt|fail) only[go_sem,X_dw,Ye,GO,e]
 repeat' ((try rw[A7])<;>split<;>rename_i hh<;>(try simp only[ack,acj,acd,ace] at hh)<;>(try simp(disch:=first|exact abt|fail) only[*,go_sem,GO,e]))
end Go.Proofs.YtkdiccgfbfbjlaaGreat
namespace Go.Proofs.YtkdiccgfbfbjlaaGreat
open Go Go.Ev
variable [Sh]
set_option maxHeartbeats 1000000
theorem cz (k:Int):evL cfg Q9 0 [.d (.int .i64 (k))] []=some (.d (.bool (Ck k)),[]):=by
 rw[o_dx];simp(disch:=first|exact abt|fail) only[go_sem,X_dx,Yd,Ck]
 repeat' ((try rw[A7])<;>split<;>rename_i hh<;>(try simp only[ack,acj,acd,ace] at hh)<;>(try simp(disch:=first|exact abt|fail) only[*,go_sem,Ck]))
theorem dw (k:Int):evL cfg RJ 0 [.d (.int .i64 (k))] []=some (.d (.bool (FE k)),[]):=by
 rw[o_d8];simp(disch:=first|exact abt|fail) only[go_sem,X_d8,Yq,FE,bne]
 repeat' ((try rw[A7])<;>split<;>rename_i hh<;>(try simp only[ack,acj,acd,ace] at hh)<;>(try simp(disch:=first|exact abt|fail) only[*,go_sem,FE,bne]))
theorem ov (t:Ty) (i n:Int) (hv:inI i):evL cfg Pv 0 [.d t.d,.d (.int .i64 (i)),.d (.int .i64 (n))] []=some (.d (.bool (!(n !=0&&t.kind !=9)&&EX t i n)),[]):=by
 rw[o_ah];simp(disch:=first|exact abt|fail) only[go_sem,X_ah,ZC,jr hv,j2,EX,HZ]
 repeat' ((try rw[A7])<;>split<;>rename_i hh<;>(try simp only[ack,acj,acd,ace] at hh)<;>(try simp(disch:=first|exact abt|fail) only[*,go_sem,jr hv,j2,EX,HZ]))
end Go.Proofs.YtkdiccgfbfbjlaaGreat
namespace Go.Proofs.YtkdiccgfbfbjlaaGreat
open Go Go.Ev
variable [Sh]
set_option maxHeartbeats 1000000
theorem ed {b:Tx} (hb:b.length<2 ^ 63) {K:List Kf}:∀ (r:Tx) (i n:Nat),b.drop i=r→i≤b.length→n≤i→
  go QL (.c (.loop bn4):: .b 0::K) ⟨[(0,.d (BA b)),(3,.d (.int .i64 ((n:Int)))),(4,.d (.int .i64 ((i:Int))))],[]⟩=
   go QL K ⟨[(0,.d (BA b)),(3,.d (.int .i64 (((n+Ey r:Nat):Int)))),(4,.d (.int .i64 ((b.length:Int)))),(8,.d (.bool (false)))],[]⟩
 | [],i,n,hr,hi,hn=>by
  have h1:=aq hr;have:i=b.length:=abu;subst this;have d_a:decide ((b.length:Int)<b.length)=false:=by simp<;>omega
  rw[go_loop];simp(disch:=first|exact abt|fail) only[go_sem,QL,d_a,Ey,Nat.add_zero]
 | c::r,i,n,hr,hi,hn=>by
  obtain⟨hlt,hc,hr'⟩:=ba hr;have d_a:decide ((i:Int)<b.length)=true:=by simp<;>omega
  have e1:(i:Int)+1=((i+1:Nat):Int):=abu;cases hs:QS c with
  | true=>
   have ih:=ed hb (K:=K) r (i+1) (n+1) hr' abu abu;have e2:(n:Int)+1=((n+1:Nat):Int):=abu;rw[Ey,hs,if_pos rfl,← Nat.add_assoc,← ih,go_loop];unfold QS at hs;simp(disch:=first|exact abt|fail) only[go_sem,QL,d_a,hc,ax,hs,AD,e1,e2]
  | false=>
   have ih:=ed hb (K:=K) r (i+1) n hr' abu abu;rw[Ey,hs,if_neg abw,Nat.zero_add,← ih,go_loop];unfold QS at hs;simp(disch:=first|exact abt|fail) only[go_sem,QL,d_a,hc,ax,hs,AD,e1]
theorem ry {b:Tx} (hb:b.length<2 ^ 63):evL cfg RY 0 [.d (BA b)] []=some (.d (.int .i64 ((Ey b:Int))),[]):=by
 rw[o_bw];have hl:=fun K=>ed hb (K:=K) b 0 0 rfl (aco _) (aco _)
 simp only[nc0,Nat.zero_add] at hl;simp(disch:=first|exact abt|fail) only[go_sem,QL,Y0,hl]
end Go.Proofs.YtkdiccgfbfbjlaaGreat
namespace Go.Proofs.YtkdiccgfbfbjlaaGreat
open Go Go.Ev
variable [Sh]
set_option maxHeartbeats 1000000
theorem xf (a:Nat):((a:Nat):Int).tmod 2=((a % 2:Nat):Int):=rfl
mutual
def okV:Va→Prop
 | .mk _ i _ b ks=>inI i∧b.length<2 ^ 63∧ks.length<2 ^ 63∧Fv ks
def Fv:List Va→Prop
 | []=>True
 |k::r=>okV k∧Fv r
end
theorem GF (v:Va):okV v↔inI v.i∧v.b.length<2 ^ 63∧v.kids.length<2 ^ 63∧Fv v.kids:=by
 cases v with
 |mk nl i n b ks=>rw[okV];rfl
theorem DJ:∀ {l:List Va} {k:Va},Fv l→k∈l→okV k
 | x::l,k,h,hk=>by
  rw[Fv] at h;rcases ach.1 hk with e|e
  · rw[e];exact h.1
  · exact DJ h.2 e
end Go.Proofs.YtkdiccgfbfbjlaaGreat
namespace Go.Proofs.YtkdiccgfbfbjlaaGreat
open Go Go.Ev
variable [Sh]
set_option maxHeartbeats 2000000
theorem bmd (deep:Nat) (v:Va):EA deep v=if decide ((deep:Int)>20)||decide ((v.kids.length:Int)>400)||decide ((v.b.length:Int)>5000) then 1000 else EK (deep+1) (1+((v.b.length / 50:Nat):Int)) v.kids:=by
 cases v with
 |mk nl i n b ks=>rw[EA];rfl
theorem wk (deep:Nat) (n:Int) (k:Va) (r:List Va):EK deep n (k::r)=if decide (n+EA deep k>1000) then 1000 else EK deep (n+EA deep k) r:=by rw[EK]
theorem akx (deep:Nat) (n:Int):EK deep n []=n:=by rw[EK]
theorem aqv:∀ (m:Nat) (v:Va) (deep:Nat),v.size≤m→1≤EA deep v∧EA deep v≤1000
 |0,v,deep,h=>by have:=v.size_pos;omega
 | m+1,v,deep,h=>by
  rw[bmd];split
  · omega
  · rename_i hc
    simp only[acu,ab4,not_or] at hc;have key:∀ (r:List Va) (n:Int),(∀ k∈r,k.size≤m)→1≤n→n≤1000→1≤EK (deep+1) n r∧EK (deep+1) n r≤1000:=by
     intro r
     induction r with
     |nil=>intro n _ h1 h2;rw[akx];omega
     | cons k r ih=>
      intro n hk h1 h2;have:=aqv m k (deep+1) (hk k abw);rw[wk];split
      · omega
      · rename_i h3
        simp only[ab4] at h3;exact ih _ (fun x hx=>hk x (by simp[hx])) abu abu
    exact key v.kids _ (fun k hk=>by have:=Va.A8 hk;omega) abu abu
theorem l4 (v:Va) (deep:Nat) (hd:deep≤20) (hk:v.kids.length≤400) (IH:∀ k∈v.kids,evL cfg HB 0 [.d k.d,.d (.int .i64 (((deep+1:Nat):Int)))] []=some (.d (.int .i64 (EA (deep+1) k)),[])):∀ (r:List Va) (i:Nat) (n:Int),v.kids.drop i=r→i≤v.kids.length→1≤n→n≤1000→
  go HQ [.c (.loop ari),.b 0,.c (.seq ams .ret)] ⟨[(1,.d (.int .i64 ((deep:Int)))),(2,.ref 0 2 0),(5,.d (.int .i64 (n))),(6,.d (.int .i64 ((i:Int))))],SJ 2 v⟩=some (.d (.int .i64 (EK (deep+1) n r)),[])
 | [],i,n,hr,hi,h1,h2=>by
  have:=aq hr;have:i=v.kids.length:=abu;subst this;have d_a:decide ((v.kids.length:Int)<v.kids.length)=false:=by simp<;>omega
  rw[go_loop,akx];simp(disch:=first|exact abt|fail) only[go_sem,HQ,d_a,SJ]
 | k::r,i,n,hr,hi,h1,h2=>by
  obtain⟨hlt,hc,hr'⟩:=ba hr;have hb:=aqv _ k (deep+1) (ab5 _);have hf:=IH k (List.mem_of_getElem? hc);have d_a:decide ((i:Int)<v.kids.length)=true:=by simp<;>omega
  have e1:(i:Int)+1=((i+1:Nat):Int):=abu;have e2:(deep:Int)+1=((deep+1:Nat):Int):=abu;rw[go_loop,wk];generalize EA (deep+1) k=q at *;rcases ab2 (decide (n+q>1000)) with d_x|d_x<;>have p_x:=d_x<;>simp only[ab4,ab3,acg,ab6,ne_eq] at p_x
  · simp(disch:=first|exact abt|fail) only[go_sem,HQ,d_a,hc,e2,hf,SJ,d_x]
  · have ih:=l4 v deep hd hk IH r (i+1) (n+q) hr' abu abu abu
    simp only[SJ] at ih;simp(disch:=first|exact abt|fail) only[go_sem,HQ,d_a,hc,e2,hf,SJ,d_x,e1,ih]
theorem nh:∀ (m:Nat) (v:Va) (deep:Nat),v.size≤m→deep≤21→evL cfg HB 0 [.d v.d,.d (.int .i64 ((deep:Int)))] []=some (.d (.int .i64 (EA deep v)),[])
 |0,v,deep,h,_=>by have:=v.size_pos;omega
 | m+1,v,deep,h,hd=>by
  rw[o_bh,bmd];rcases ab2 (decide ((deep:Int)>20)) with d_a|d_a<;>have p_a:=d_a<;>simp only[ab4,ab3,acg,ab6,ne_eq] at p_a
  · simp(disch:=first|exact abt|fail) only[go_sem,HQ,QC,d_a]
  · rcases ab2 (decide ((v.kids.length:Int)>400)) with d_b|d_b<;>have p_b:=d_b<;>simp only[ab4,ab3,acg,ab6,ne_eq] at p_b
    · simp(disch:=first|exact abt|fail) only[go_sem,HQ,QC,d_a,d_b]
    · rcases ab2 (decide ((v.b.length:Int)>5000)) with d_c|d_c<;>have p_c:=d_c<;>simp only[ab4,ab3,acg,ab6,ne_eq] at p_c
      · simp(disch:=first|exact abt|fail) only[go_sem,HQ,QC,d_a,d_b,d_c]
      · have IH:∀ k∈v.kids,evL cfg HB 0 [.d k.d,.d (.int .i64 (((deep+1:Nat):Int)))] []=some (.d (.int .i64 (EA (deep+1) k)),[]):=fun k hk=>nh m k (deep+1) (by have:=Va.A8 hk;omega) abu
        have hl:=l4 v deep abu abu IH v.kids 0 (1+((v.b.length / 50:Nat):Int)) rfl (aco _) abu abu;simp only[SJ,nc0] at hl;have e1:(v.b.length:Int).tdiv 50=((v.b.length / 50:Nat):Int):=rfl;simp(disch:=first|exact abt|fail) only[go_sem,HQ,QC,d_a,d_b,d_c,p6,e1,hl]
theorem qj (v:Va):evL cfg RE 0 [.d v.d] []=some (.d (.int .i64 (EA 1 v)),[]):=by
 have h1:=nh _ v 1 (ab5 _) abu;rw[o_dm];rw[show((1:Nat):Int)=1 from rfl] at h1
 simp(disch:=first|exact abt|fail) only[go_sem,X_dm,Yj,h1]
