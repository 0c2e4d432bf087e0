import Derived.Test.YtmeohcmbohicoaaGreatDoorOtI
import Derived.Test.YtmeohcmbohicoaaGreatDoorRdt
namespace Go.Proofs.YtmeohcmbohicoaaGreatDoor
open Go Go.Ev
set_option maxHeartbeats 8000000
set_option maxRecDepth 10000
theorem Of_one:evL cfg n_a6 0 [.d (.agg [.int .i64 0,.sl [],.int .i64 0,.sl [],.sl [],.int .i64 0,.int .i64 0,.int .i64 0,.sl [],.int .i64 0,.sl [.agg [.int .i64 1,.bool false,.bool false,.bool false,.int .i64 0,.int .i64 0,.sl [],.sl [],.bool false,.int .i64 0,.int .i64 0,.sl [],.sl [],.bool false,.int .i64 0]],.int .i64 0])] []=
 some (.d (.agg [.int .i64 0,.sl [],.int .i64 0,.sl [],.sl [],.int .i64 0,.int .i64 0,.int .i64 0,.sl [],.int .i64 0,.sl [.agg [.int .i64 1,.bool false,.bool false,.bool false,.int .i64 0,.int .i64 0,.sl [],.sl [],.bool false,.int .i64 0,.int .i64 0,.sl [],.sl [],.bool false,.int .i64 0]],.int .i64 0]),[]):=az (n:=30) vo
def boxF9 (t:Ty) (v:V):List (Cel×V):=[(⟨0,9,0⟩,.d (.int .i64 (0))),(⟨0,9,1⟩,.d .nilS),(⟨0,9,2⟩,.d (.int .i64 (t.kind))),(⟨0,9,3⟩,.d (.sl (t.names.map D.str))),(⟨0,9,4⟩,.d (.sl (t.kids.map Ty.d))),(⟨0,9,5⟩,.d (.int .i64 (t.len))),(⟨0,9,6⟩,.d (.int .i64 (t.prec))),(⟨0,9,7⟩,.d (.int .i64 (t.scale))),(⟨0,9,8⟩,.d .nilS),(⟨0,9,9⟩,.d (.int .i64 (5))),(⟨0,9,10⟩,v),(⟨0,9,11⟩,.d (.int .i64 (7)))]
abbrev boxL (t:Ty) (v:V):List (Cel×V):=boxT 4 t++boxF9 t v
abbrev loE (num v:Int) (x:List UInt8) (L:List D) (i:Nat):List (Nat×V):=[(1,.d (.int .i64 (num))),(2,.d (.int .u64 (v))),(3,.d (.sl ((x).map byteD))),(4,.ref 0 4 0),(9,.ref 0 9 0),(10,.d (.sl L)),(11,.d (.int .i64 ((i:Int))))]
theorem ph (t:Ty) (num v:Int) (x:List UInt8) (L:List D) (n:Nat) (hL:L.length=n) (hn:n≤1000) (K:List Kf):∀ (m i:Nat),n-i=m→i≤n→
  go X_ag (.c (.loop akv):: .b 0::K) ⟨loE num v x L i,boxL t (ownZ 15 (List.replicate i ag))⟩=
   go X_ag K ⟨loE num v x L n++[(47,.d (.bool (false)))],boxL t (ownZ 15 (List.replicate n ag))⟩
 | 0,i,hm,hi=>by
  have:i=n:=vn;subst this;have d_a:decide ((i:Int)<i)=false:=by simp<;>omega
  have hO:=bx 15 (List.replicate i ag);rw[go_loop];unfold boxL boxF9;generalize ownZ 15 (List.replicate i ag)=W at *;simp only[loE,boxT,List.cons_append,List.nil_append];simp(maxSteps:=2000000) (disch:=first|exact vm|fail) only[go_sem,X_ag,d_a,hL,hO]
 | m+1,i,hm,hi=>by
  have ih:=ph t num v x L n hL hn K m (i+1) vn vn;rw[← ih];have h1:=Of_one;have d_a:decide ((i:Int)<n)=true:=by simp<;>omega
  unfold boxL boxF9 loE;rw[show(((i+1:Nat)):Int)=(i:Int)+1 by omega,agb]
  have hD:ag= .agg [.int .i64 1,.bool false,.bool false,.bool false,.int .i64 0,.int .i64 0,.sl [],.sl [],.bool false,.int .i64 0,.int .i64 0,.sl [],.sl [],.bool false,.int .i64 0]:=rfl
  conv=>lhs;rw[go_loop]
  cases i with
  | zero=>
   rw[show((0:Nat):Int)=0 from rfl] at*
   simp only[boxT,List.replicate_zero,af,List.cons_append,List.nil_append];simp(maxSteps:=2000000) (disch:=first|exact vm|fail) only[go_sem,X_ag,d_a,hL,h1,hD,len15,List.take_succ_cons,List.take_zero]
  | succ i=>
   have hO:ownZ 15 (List.replicate (i+1) ag)= .own false 15 (List.replicate (i+1) ag):=rfl;have hQ:(List.replicate (i+1) ag).length=i+1:=List.length_replicate;rw[hO];generalize List.replicate (i+1) ag=q at *;simp only[boxT,List.cons_append,List.nil_append];simp(maxSteps:=2000000) (disch:=first|exact vm|fail) only[go_sem,X_ag,d_a,hL,hQ,h1,hD,len15,List.take_succ_cons,List.take_zero]
theorem s8 (t:Ty) (num:Int) (v:Int) (x:List UInt8) (ht:tyIn t) (hx:x.length≤maxLen) (wn:(Lit.int .i64 num).wf=true) (wv:(Lit.int .u64 v).wf=true):evL cfg n_ag 0 [.d t.d,.d (.int .i64 (num)),.d (.int .u64 (v)),.d (.sl ((x).map byteD))] []=some (.d (.bool (true)),[]):=by
 obtain⟨v,rfl⟩:∃ u:Nat,v=(u:Int):=by
  simp[Lit.wf,IntKind.min,IntKind.max,IntKind.signed,IntKind.bits] at wv;exact⟨v.toNat,by omega⟩
 have hv:v<18446744073709551616:=by
  simp[Lit.wf,IntKind.min,IntKind.max,IntKind.signed,IntKind.bits] at wv;omega
 rw[o_ag];have h1:=law13_Few_ans t;cases hf:fewTB t with
 | false=>
  rw[hf] at h1;simp(maxSteps:=2000000) (disch:=first|exact vm|fail) only[go_sem,X_ag,c_ag,jp,h1]
 | true=>
  rw[hf] at h1;have h2:=ref13_Check_ans t (a7k hf).2;rcases wx ((chkT 1 0 t).2 !=0) with y|y
  · simp(maxSteps:=2000000) (disch:=first|exact vm|fail) only[go_sem,X_ag,c_ag,jp,h1,h2,y]
  have h3:(chkT 1 0 t).2=0:=by simpa using y
  rw[h3] at h2;rcases wx (decide (num<9)) with d_a|d_a<;>have p_a:=d_a<;>simp only[we,wd,xj,wq,ne_eq] at p_a
  · simp(maxSteps:=2000000) (disch:=first|exact vm|fail) only[go_sem,X_ag,c_ag,jp,h1,h2,d_a]
  rcases wx (decide (num>268435456)) with d_b|d_b<;>have p_b:=d_b<;>simp only[we,wd,xj,wq,ne_eq] at p_b
  · simp(maxSteps:=2000000) (disch:=first|exact vm|fail) only[go_sem,X_ag,c_ag,jp,h1,h2,d_a,d_b]
  by_cases hm:x.length>100
  · have d_c:decide ((x.length:Int)>100)=true:=by simp<;>omega
    simp(maxSteps:=2000000) (disch:=first|exact vm|fail) only[go_sem,X_ag,c_ag,jp,h1,h2,vu,d_a,d_b,d_c]
  have d_c:decide ((x.length:Int)>100)=false:=by simp<;>omega
  obtain⟨num,rfl⟩:∃ u:Nat,num=(u:Int):=⟨num.toNat,by omega⟩
  have hz:=fp h3;have hpos:=t.size_pos;obtain⟨hk,hs⟩:=a7k hf;have f2:=dv t hs h3;have f1:=gq t hk h3;have hLn:((flatR 0 (-1) 1 t).map sigD).length=t.size:=by rw[vu,← flL_len t 0,pq t 0 (-1) 1,vu]
  have hFl:(flatT 0 (-1) 1 t).length=t.size:=flatT_len t 0 (-1) 1;have lp:=fun K=>ph t (num:Int) (v:Int) x ((flatR 0 (-1) 1 t).map sigD) t.size hLn vn K t.size 0 (Nat.sub_zero _) (ww _)
  have en:=ni t hs h3;obtain⟨el,_⟩:=encP_len h3;obtain⟨fs,p,hF,u2,u6,u8⟩:=oth_ok h3 num v x vn vn hv vn;have de:=tq hF hk h3 vn;rw[u2,u6,u8,show((0:Nat):Int)=0 from rfl,show((5:Nat):Int)=5 from rfl,show((7:Nat):Int)=7 from rfl] at de
  have o1:=Of_ans t t.size hpos vn;have s1:=Same_ans t t.size vn hk;have p1:=bv (num:=num) (v:=v) vn vn hv;have lu:=(a8 num v).2;have p2:=bl (b:=uintF num v) (v:=x) (num:=num) vn vn vn vn;have p3:=bv (num:=num+1) (v:=v) vn vn hv;rw[show((num+1:Nat):Int)=(num:Int)+1 by omega] at p3
  have lb:=(bz num x).2;have ec:(uintF num v++av num x).map byteD++(putB (encP t)).map byteD++(uintF (num+1) v).map byteD=(putB (othP num v x t)).map byteD:=by
    unfold othP;simp only[eu,← List.map_append];simp only[putB,List.map_cons,List.map_nil,List.flatten_cons,List.flatten_nil,Put.bytes,List.append_nil]
  have hO:ownZ 15 (List.replicate t.size ag)= .own false 15 (List.replicate t.size ag):=by
    obtain⟨m,e⟩:∃ m,t.size=m+1:=⟨t.size-1,by omega⟩
    rw[e];rfl
  unfold boxL boxF9 loE at lp;rw[List.replicate_zero,af,hO,show((0:Nat):Int)=0 from rfl] at lp
  unfold footR at en o1 s1;have lpb:(uintF num v++av num x).length≤200:=by rw[v8];omega
  have lpe:((putB (encP t)).map byteD).length≤43000:=by rw[vu];omega
  have lpu:((uintF (num+1) v).map byteD).length≤20:=by rw[vu];exact(a8 _ _).2
  have ae:allZ 1 ((putB (encP t)).map byteD)=true:=allZ_map (f:=byteD) (fun _=>rfl) _
  have au:allZ 1 ((uintF (num+1) v).map byteD)=true:=allZ_map (f:=byteD) (fun _=>rfl) _
  generalize(putB (encP t)).map byteD=eb at *;generalize(uintF (num+1) v).map byteD=ub at *;generalize(putB (othP num v x t)).map byteD=ob at *;generalize List.replicate t.size ag=S at *;generalize(flatR 0 (-1) 1 t).map sigD=LL at *;generalize flatT 0 (-1) 1 t=FT at *;have hlb:((uintF num v++av num x).map byteD).length≤200:=by rw[vu];omega
  generalize(uintF num v++av num x).map byteD=cb at *;generalize(uintF num v).map byteD=c0 at *;have nn:((t.size:Int) !=(t.size:Int))=false:=bne_self_eq_false _;simp only[boxT,List.cons_append,List.nil_append] at lp;simp(maxSteps:=2000000) (disch:=first|exact vm|fail) only[go_sem,X_ag,c_ag,jp,h1,h2,vu,d_a,d_b,d_c,f2]
  refine(lp _).trans ?_;simp(maxSteps:=2000000) (disch:=first|exact vm|fail) only[go_sem,X_ag,len12,en,f1,hFl,hLn,nn,p1,p2,p3,hlb,lpe,lpu,ec,ae,au,de,o1,s1,len6]
