import Derived.Test.YtmeohcmbohicoaaGreatDoorOtH
namespace Go.Proofs.YtmeohcmbohicoaaGreatDoor
open Go Go.Ev
set_option maxHeartbeats 8000000
set_option maxRecDepth 10000
theorem bneI (i:Int):(i !=i)=false:=bne_self_eq_false i
theorem bneT (x:Tx):(x !=x)=false:=bne_self_eq_false x
theorem oq (t:Ty) (hn:t.names.length≤1000000) (K:List Kf):∀ (r:List Tx) (i:Nat),t.names.drop i=r→i≤t.names.length→
  go X_aq (.c (.loop a8p):: .b 0::K) ⟨[(2,.ref 0 2 0),(3,.ref 0 3 0),(5,.d (.int .i64 ((i:Int))))],boxT 2 t++boxT 3 t⟩=
   go X_aq K ⟨[(2,.ref 0 2 0),(3,.ref 0 3 0),(5,.d (.int .i64 ((t.names.length:Int)))),(55,.d (.bool (false)))],boxT 2 t++boxT 3 t⟩
 | [],i,hr,hi=>by
  have:=br hr;have:i=t.names.length:=vn;subst this;have d_a:decide ((t.names.length:Int)<t.names.length)=false:=by simp<;>omega
  rw[go_loop];simp only[boxT,List.cons_append,List.nil_append];simp(disch:=first|exact vm|fail) only[go_sem,X_aq,d_a,vu]
 | x::r,i,hr,hi=>by
  obtain⟨h1,h2,h3⟩:=cc hr;have ih:=oq t hn K r (i+1) h3 h1;rw[show(((i+1:Nat)):Int)=(i:Int)+1 by omega] at ih
  have d_a:decide ((i:Int)<t.names.length)=true:=by simp<;>omega
  rw[← ih,go_loop];simp only[boxT,List.cons_append,List.nil_append];simp(disch:=first|exact vm|fail) only[go_sem,X_aq,d_a,vu,v6,h2,Option.map_some,bneT]
theorem ra (t:Ty) (hn:t.kids.length≤1000000) (IH:∀ k∈t.kids,evL cfg n_aq 0 [.d k.d,.d k.d] []=some (.d (.bool (true)),[])) (K:List Kf):∀ (r:List Ty) (i:Nat),t.kids.drop i=r→i≤t.kids.length→
  go X_aq (.c (.loop akm):: .b 2::K) ⟨[(2,.ref 0 2 0),(3,.ref 0 3 0),(6,.d (.int .i64 ((i:Int))))],boxT 2 t++boxT 3 t⟩=
   go X_aq K ⟨[(2,.ref 0 2 0),(3,.ref 0 3 0),(6,.d (.int .i64 ((t.kids.length:Int)))),(73,.d (.bool (false)))],boxT 2 t++boxT 3 t⟩
 | [],i,hr,hi=>by
  have:=br hr;have:i=t.kids.length:=vn;subst this;have d_a:decide ((t.kids.length:Int)<t.kids.length)=false:=by simp<;>omega
  rw[go_loop];simp only[boxT,List.cons_append,List.nil_append];simp(disch:=first|exact vm|fail) only[go_sem,X_aq,d_a,vu]
 | k::r,i,hr,hi=>by
  obtain⟨h1,h2,h3⟩:=cc hr;have ih:=ra t hn IH K r (i+1) h3 h1;have hk:=IH k (List.mem_of_getElem? h2);rw[show(((i+1:Nat)):Int)=(i:Int)+1 by omega] at ih
  have d_a:decide ((i:Int)<t.kids.length)=true:=by simp<;>omega
  rw[← ih,go_loop];simp only[boxT,List.cons_append,List.nil_append];simp(disch:=first|exact vm|fail) only[go_sem,X_aq,d_a,vu,v6,h2,Option.map_some,hk]
theorem vh:∀ (m:Nat) (t:Ty),t.size≤m→fewK m t→evL cfg n_aq 0 [.d t.d,.d t.d] []=some (.d (.bool (true)),[])
 |0,t,h,_=>by have:=t.size_pos;omega
 | m+1,t,h,⟨s1,s2,s3⟩=>by
  have IH:=fun(k:Ty) (hk:k∈t.kids)=>vh m k (by have:=Ty.size_kid hk;omega) (s3 k hk)
  have l1:=fun K=>oq t s1 K t.names 0 rfl (ww _)
  have l2:=fun K=>ra t s2 IH K t.kids 0 rfl (ww _)
  simp only[boxT,List.cons_append,List.nil_append] at l1 l2;rw[show((0:Nat):Int)=0 from rfl] at l1 l2
  rw[o_aq];simp(disch:=first|exact vm|fail) only[go_sem,X_aq,c_aq,bneI,vu]
  refine(l1 _).trans ?_;simp(disch:=first|exact vm|fail) only[go_sem,X_aq]
  refine(l2 _).trans ?_;simp(disch:=first|exact vm|fail) only[go_sem,X_aq]
theorem Of16_1:evL cfg n_cl 0 [.d ag] []=some (.d ag,[]):=az (n:=20) vo
theorem Same14_0:evL cfg n_bm 0 [.d (.agg [.bool false,.int .i64 0,.int .i64 0,.sl [],.sl []]),.d (.agg [.bool false,.int .i64 0,.int .i64 0,.sl [],.sl []])] []=some (.d (.bool (true)),[]):=az (n:=20) vo
def lq (k:Nat) (t:Ty) (v:V):List (Cel×V):=[(⟨0,k,0⟩,.d (.int .i64 (0))),(⟨0,k,1⟩,.d (.sl [])),(⟨0,k,2⟩,.d (.int .i64 (t.kind))),(⟨0,k,3⟩,.d (.sl (t.names.map D.str))),(⟨0,k,4⟩,.d (.sl (t.kids.map Ty.d))),(⟨0,k,5⟩,.d (.int .i64 (t.len))),(⟨0,k,6⟩,.d (.int .i64 (t.prec))),(⟨0,k,7⟩,.d (.int .i64 (t.scale))),(⟨0,k,8⟩,.d (.sl [])),(⟨0,k,9⟩,.d (.int .i64 (5))),(⟨0,k,10⟩,v),(⟨0,k,11⟩,.d (.int .i64 (7)))]
abbrev boxOf (t:Ty) (n:Nat) (i:Nat):List (Cel×V):=
 lq 1 t (.d (.sl (List.replicate n ag)))++([(⟨0,2,0⟩,.d (.int .i64 (0))),(⟨0,2,1⟩,.d .nilS),(⟨0,2,2⟩,.d (.int .i64 (0))),(⟨0,2,3⟩,.d .nilS),(⟨0,2,4⟩,.d .nilS),(⟨0,2,5⟩,.d (.int .i64 (0))),(⟨0,2,6⟩,.d (.int .i64 (0))),(⟨0,2,7⟩,.d (.int .i64 (0))),(⟨0,2,8⟩,.d .nilS),(⟨0,2,9⟩,.d (.int .i64 (0))),(⟨0,2,10⟩,.d .nilS),(⟨0,2,11⟩,.d (.int .i64 (0)))]++
 [(⟨0,3,0⟩,.d (.int .i64 (0))),(⟨0,3,1⟩,.d .nilS),(⟨0,3,2⟩,.d (.int .i64 (t.kind))),(⟨0,3,3⟩,.d (.sl (t.names.map D.str))),(⟨0,3,4⟩,.d (.sl (t.kids.map Ty.d))),(⟨0,3,5⟩,.d (.int .i64 (t.len))),(⟨0,3,6⟩,.d (.int .i64 (t.prec))),(⟨0,3,7⟩,.d (.int .i64 (t.scale))),(⟨0,3,8⟩,.d (.sl [])),(⟨0,3,9⟩,.d (.int .i64 (5))),(⟨0,3,10⟩,ownZ 15 (List.replicate i ag)),(⟨0,3,11⟩,.d (.int .i64 (7)))])
theorem a8w (t:Ty) (n:Nat) (hn:n≤1000) (K:List Kf):∀ (m i:Nat),n-i=m→i≤n→
  go X_a6 (.c (.loop ak0):: .b 2::K) ⟨[(1,.ref 0 1 0),(2,.ref 0 2 0),(3,.ref 0 3 0),(6,.d (.int .i64 ((i:Int))))],boxOf t n i⟩=
   go X_a6 K ⟨[(1,.ref 0 1 0),(2,.ref 0 2 0),(3,.ref 0 3 0),(6,.d (.int .i64 ((n:Int)))),(50,.d (.bool (false)))],boxOf t n n⟩
 | 0,i,hm,hi=>by
  have:i=n:=vn;subst this;have d_a:decide ((i:Int)<i)=false:=by simp<;>omega
  have hO:=bx 15 (List.replicate i ag);rw[go_loop];unfold boxOf lq;generalize ownZ 15 (List.replicate i ag)=W at *;have hSl:(List.replicate i ag).length=i:=List.length_replicate;generalize List.replicate i ag=S at *;simp only[List.cons_append,List.nil_append];simp(maxSteps:=2000000) (disch:=first|exact vm|fail) only[go_sem,X_a6,d_a,hSl,hO]
 | m+1,i,hm,hi=>by
  have ih:=a8w t n hn K m (i+1) vn vn;rw[← ih];have hs:(List.replicate n ag)[i]? =some ag:=by rw[List.getElem?_replicate,if_pos vn]
  have hSl:(List.replicate n ag).length=n:=List.length_replicate;have h16:=Of16_1;have d_a:decide ((i:Int)<n)=true:=by simp<;>omega
  unfold boxOf lq;rw[show(((i+1:Nat)):Int)=(i:Int)+1 by omega,agb]
  generalize List.replicate n ag=S at *;have hD:ag= .agg [.int .i64 1,.bool false,.bool false,.bool false,.int .i64 0,.int .i64 0,.sl [],.sl [],.bool false,.int .i64 0,.int .i64 0,.sl [],.sl [],.bool false,.int .i64 0]:=rfl
  conv=>lhs;rw[go_loop]
  cases i with
  | zero=>
   rw[show((0:Nat):Int)=0 from rfl] at*
   unfold ag at hs h16;simp only[List.replicate_zero,af,List.cons_append,List.nil_append];simp(maxSteps:=2000000) (disch:=first|exact vm|fail) only[go_sem,X_a6,d_a,hs,hSl,h16,hD,len15,List.take_succ_cons,List.take_zero]
  | succ i=>
   have hO:ownZ 15 (List.replicate (i+1) ag)= .own false 15 (List.replicate (i+1) ag):=rfl;have hQ:(List.replicate (i+1) ag).length=i+1:=List.length_replicate;rw[hO];generalize List.replicate (i+1) ag=q at *;unfold ag at hs h16;simp only[List.cons_append,List.nil_append];simp(maxSteps:=2000000) (disch:=first|exact vm|fail) only[go_sem,X_a6,d_a,hs,hSl,hQ,h16,hD,len15,List.take_succ_cons,List.take_zero]
theorem Of_ans (t:Ty) (n:Nat) (h0:1≤n) (hn:n≤1000):evL cfg n_a6 0 [.d (.agg (footR t n))] []=some (.d (.agg (footR t n)),[]):=by
 have lp:=fun K=>a8w t n hn K n 0 (Nat.sub_zero _) (ww _)
 obtain⟨m,rfl⟩:∃ m,n=m+1:=⟨n-1,by omega⟩
 have hO:ownZ 15 (List.replicate (m+1) ag)= .own false 15 (List.replicate (m+1) ag):=rfl;unfold boxOf lq at lp;rw[hO,List.replicate_zero,af,show((0:Nat):Int)=0 from rfl] at lp
 rw[o_a6];unfold footR;generalize List.replicate (m+1) ag=S at *;simp only[List.cons_append,List.nil_append] at lp;have z3:decide ((0:Int)<0)=false:=rfl;simp(maxSteps:=2000000) (disch:=first|exact vm|fail) only[go_sem,X_a6,c_a6,len6,List.take_succ_cons,List.take_zero]
 conv=>lhs;rw[go_loop]
 simp(maxSteps:=2000000) (disch:=first|exact vm|fail) only[go_sem,X_a6,z3]
 refine(lp _).trans ?_;simp(maxSteps:=2000000) (disch:=first|exact vm|fail) only[go_sem,X_a6,len12]
abbrev bSm (t:Ty) (S:List D):List (Cel×V):=lq 2 t (.d (.sl S))++lq 3 t (.d (.sl S))
abbrev b15 (k:Nat):List (Cel×V):=[(⟨0,k,0⟩,.d (.int .i64 (1))),(⟨0,k,1⟩,.d (.bool (false))),(⟨0,k,2⟩,.d (.bool (false))),(⟨0,k,3⟩,.d (.bool (false))),(⟨0,k,4⟩,.d (.int .i64 (0))),(⟨0,k,5⟩,.d (.int .i64 (0))),(⟨0,k,6⟩,.d (.sl [])),(⟨0,k,7⟩,.d (.sl [])),(⟨0,k,8⟩,.d (.bool (false))),(⟨0,k,9⟩,.d (.int .i64 (0))),(⟨0,k,10⟩,.d (.int .i64 (0))),(⟨0,k,11⟩,.d (.sl [])),(⟨0,k,12⟩,.d (.sl [])),(⟨0,k,13⟩,.d (.bool (false))),(⟨0,k,14⟩,.d (.int .i64 (0)))]
theorem af2 (t:Ty) (n:Nat) (hn:n≤1000) (K:List Kf):∀ (m i:Nat) (o:Bool),n-i=m→i≤n→
  ∃ o':Bool,go X_ai (.c (.loop akt):: .b 4::K) ⟨[(2,.ref 0 2 0),(3,.ref 0 3 0),(7,.d (.int .i64 ((i:Int))))],bSm t (List.replicate n ag)++(if o then b15 8++b15 9 else[])⟩=
    go X_ai K ⟨[(2,.ref 0 2 0),(3,.ref 0 3 0),(7,.d (.int .i64 ((n:Int)))),(123,.d (.bool (false)))],bSm t (List.replicate n ag)++(if o' then b15 8++b15 9 else[])⟩
 | 0,i,o,hm,hi=>by
  have:i=n:=vn;subst this;refine⟨o,?_⟩;have d_a:decide ((i:Int)<i)=false:=by simp<;>omega
  have hSl:(List.replicate i ag).length=i:=List.length_replicate;generalize List.replicate i ag=S at *;rw[go_loop];unfold bSm lq;cases o<;>
  (simp only[List.cons_append,List.nil_append,List.append_nil,vv,if_false,if_true]
   simp(maxSteps:=2000000) (disch:=first|exact vm|fail) only[go_sem,X_ai,d_a,hSl])
 | m+1,i,o,hm,hi=>by
  obtain⟨o',ih⟩:=af2 t n hn K m (i+1) true vn vn;refine⟨o',Eq.trans ?_ ih⟩;have hs:(List.replicate n ag)[i]? =some ag:=by rw[List.getElem?_replicate,if_pos vn]
  have hSl:(List.replicate n ag).length=n:=List.length_replicate;have h14:=Same14_0;generalize List.replicate n ag=S at *;unfold ag at hs;have d_a:decide ((i:Int)<n)=true:=by simp<;>omega
  have b1:(false !=false)=false:=rfl;rw[go_loop,show(((i+1:Nat)):Int)=(i:Int)+1 by omega]
  unfold bSm lq;cases o<;>
  (simp only[List.cons_append,List.nil_append,List.append_nil,vv,if_false,if_true]
   simp(maxSteps:=2000000) (disch:=first|exact vm|fail) only[go_sem,X_ai,d_a,hs,hSl,h14,bneI,b1,len15,List.take_succ_cons,List.take_zero])
theorem Same_ans (t:Ty) (n:Nat) (hn:n≤1000) (hk:fewK t.size t):evL cfg n_ai 0 [.d (.agg (footR t n)),.d (.agg (footR t n))] []=some (.d (.bool (true)),[]):=by
 have hT:=vh t.size t (wa _) hk;obtain⟨o',lp⟩:=af2 t n hn [.c (.seq ahy .ret)] n 0 false (Nat.sub_zero _) (ww _);have hSl:(List.replicate n ag).length=n:=List.length_replicate;rw[o_ai];unfold footR;unfold bSm lq at lp;generalize List.replicate n ag=S at *;simp only[List.cons_append,List.nil_append,List.append_nil,vv,if_false] at lp;rw[show((0:Nat):Int)=0 from rfl] at lp
 have z3:decide ((0:Int)<0)=false:=rfl;simp(maxSteps:=2000000) (disch:=first|exact vm|fail) only[go_sem,X_ai,c_ai,bneI,hT,hSl,len6,List.take_succ_cons,List.take_zero]
 conv=>lhs;rw[go_loop]
 simp(maxSteps:=2000000) (disch:=first|exact vm|fail) only[go_sem,X_ai,z3]
 conv=>lhs;rw[go_loop]
 simp(maxSteps:=2000000) (disch:=first|exact vm|fail) only[go_sem,X_ai,z3]
 refine lp.trans ?_;cases o'<;>
 (simp only[List.cons_append,List.nil_append,List.append_nil,vv,if_false,if_true]
  simp(maxSteps:=2000000) (disch:=first|exact vm|fail) only[go_sem,X_ai])
