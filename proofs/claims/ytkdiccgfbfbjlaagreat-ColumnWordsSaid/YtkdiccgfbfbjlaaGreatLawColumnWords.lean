import Derived.Test.YtkdiccgfbfbjlaaGreatCoW
import Derived.KernelRfl
namespace Go.Proofs.YtkdiccgfbfbjlaaGreat
open Go Go.Ev
set_option maxHeartbeats 8000000
set_option maxRecDepth 100000
theorem known_ok:evL cfg n_dg 0 [] []=some (.d (.bool (true)),[]):=by
 refine ap (n:=1) ?_;have hx:cfg.ext n_dg=some xk:=rfl;simp only[evFn,hx,allD,Option.map_some,Option.bind_some,xk]
abbrev i0:D:= .int .i64 0
def typT:D:= .agg [.int .i64 12,.sl [.str [97]],.sl [.agg [.int .i64 7,.sl [],.sl [],i0,i0,i0]],i0,i0,i0]
def nod0:D:= .agg [.int .i64 12,.sl [.int .i64 1],.sl [.str [97]],i0,i0,i0,.int .i64 (-1),.int .i64 1]
theorem flat_two:evL cfg n_dr 0 [.d typT] []=some (.d (.sl [nod0,nodT]),[]):=ap (n:=40) yr
theorem insP_len {x:Tx} {ws:List Tx} (h:Rise ws):(insP x ws).length=ws.length+(if x∈ws then 0 else 1):=by
 by_cases hx:x∈ws
 · have:=aua h hx
   unfold insP;rw[if_pos this,if_pos hx];omega
 · have hn:ws[posT x ws]? ≠some x:=fun e=>hx (List.mem_of_getElem? e)
   have:=my x ws;unfold insP;rw[if_neg hn,if_neg hx];simp;omega
theorem sk (l:List Tx) (x:Tx):(riseT (l++[x])).length=(riseT l).length+(if x∈l then 0 else 1):=by
 have e:riseT (l++[x])=insP x (riseT l):=by unfold riseT;rw[List.foldl_append];rfl
 rw[e,insP_len (mt l)];by_cases h:x∈l
 · rw[if_pos h,if_pos (gu.2 h)]
 · rw[if_neg h,if_neg (fun h'=>h (gu.1 h'))]
def ownH (x:List Bool):V:=match x with
 | []=> .d .nilS
 |y::r=> .own false 1 ((y::r).map D.bool)
theorem ox:ownH []= .d .nilS:=rfl
theorem m5 {x:List Bool} (h:x≠[]):ownH x= .own false 1 (x.map D.bool):=by
 cases x with
 |nil=>exact absurd rfl h
 |cons y r=>rfl
theorem jk (n:Nat) (x:List Bool):(ownH x).home n=ownH x:=by cases x<;>rfl
abbrev lwM (o:Op) (l:List Tx) (h:List Bool):List (Cel×V):=[(⟨0,3,0⟩,.d (.int .i64 (o.co))),(⟨0,3,1⟩,.d (.int .i64 (o.ch))),(⟨0,3,2⟩,.d (.int .i64 (o.ve))),(⟨0,3,3⟩,.d (.int .i64 (o.sh))),(⟨0,3,4⟩,.d (.int .i64 (o.ro))),(⟨0,3,5⟩,.d (.int .i64 (o.st))),
 (⟨0,6,0⟩,ownH h),(⟨0,6,1⟩,.d .nilS),(⟨0,6,2⟩,.d .nilS),(⟨0,6,3⟩,.d (.sl (l.map txt))),(⟨0,6,4⟩,.d .nilS)]
abbrev lwE (l:List Tx) (u i:Nat):List (Nat×V):=[(0,.d (.sl (l.map txt))),(3,.ref 0 3 0),(5,.d (.sl [nod0,nodT])),(6,.ref 0 6 0),(7,.d (.int .i64 ((u:Int)))),(8,.d (.int .i64 ((i:Int))))]
theorem ain (o:Op) (l:List Tx) (hl:l.length≤100) (h:List Bool) (u i:Nat) (x:Tx) (hx:l[i]? =some x) (K:List Kf):∀ (q:List Tx) (k:Nat) (f:Bool),(l.take i).drop k=q→k≤i→i≤l.length→
  go X_aa (.c (.loop xd):: .b 2::K) ⟨lwE l u i++[(9,.d (.bool (f))),(10,.d (.int .i64 ((k:Int))))],lwM o l h⟩=go X_aa K ⟨lwE l u i++[(9,.d (.bool (f&&q.all (fun y=> !(y==x))))),(10,.d (.int .i64 ((i:Int)))),(54,.d (.bool (false)))],lwM o l h⟩
 | [],k,f,hq,hk,hi=>by
  have h1:=cf hq;have:(l.take i).length=i:=by rw[aao];omega
  have:k=i:=yp;subst this;have d_a:decide ((k:Int)<k)=false:=by simp<;>omega
  rw[go_loop];simp only[List.all_nil,Bool.and_true];simp(disch:=first|exact yo|fail) only[go_sem,X_aa,lwE,lwM,d_a,jk,List.cons_append,List.nil_append]
 | y::q,k,f,hq,hk,hi=>by
  obtain⟨h1,h2,h3⟩:=da hq;rw[aao] at h1;have hy:l[k]? =some y:=by
   rw[List.getElem?_take] at h2;split at h2
   · exact h2
   · cases h2
  have ih:=fun f=>ain o l hl h u i x hx K q (k+1) f h3 yp hi
  have d_a:decide ((k:Int)<i)=true:=by simp<;>omega
  rw[go_loop];cases f with
  | false=>
   refine Eq.trans ?_ ((ih false).trans ?_)
   · simp(disch:=first|exact yo|fail) only[go_sem,X_aa,lwE,lwM,d_a,jk,List.cons_append,List.nil_append,Int.natCast_add]
   · simp
  | true=>
   refine Eq.trans ?_ ((ih (!(y==x))).trans ?_)
   · simp(disch:=first|exact yo|fail) only[go_sem,X_aa,lwE,lwM,d_a,hx,hy,txt,jk,List.cons_append,List.nil_append,Int.natCast_add]
   · simp
theorem xq {l:List Tx} {i:Nat} {x:Tx} (h:l[i]? =some x):l.take (i+1)=l.take i++[x]:=by
 obtain⟨h1,h2⟩:=y4.1 h;rw[List.take_succ_eq_append_getElem h1,h2]
theorem a5l {l:List Tx} {x:Tx}:l.all (fun y=> !(y==x))= !decide (x∈l):=by
 rw[Bool.eq_iff_iff];simp only[aac,aaw,zi,ne_eq,Bool.not_eq_eq_eq_not,Bool.not_true,zb];exact⟨fun h hx=>h x hx rfl,fun h y hy e=>h (e ▸ hy)⟩
theorem a20 (o:Op) (l:List Tx) (hl:l.length≤100) (K:List Kf):∀ (q:List Tx) (i:Nat),l.drop i=q→i≤l.length→(∀ x∈q,x.length≤200)→
  go X_aa (.c (.loop lq):: .b 0::K) ⟨lwE l (riseT (l.take i)).length i,lwM o l (List.replicate i true)⟩=go X_aa K ⟨lwE l (riseT l).length l.length++[(38,.d (.bool (false)))],lwM o l (List.replicate l.length true)⟩
 | [],i,hq,hi,hs=>by
  have:=cf hq;have:i=l.length:=yp;subst this;have d_a:decide ((l.length:Int)<l.length)=false:=by simp<;>omega
  rw[go_loop,List.take_length];simp(disch:=first|exact yo|fail) only[go_sem,X_aa,lwE,lwM,d_a,jk,yz,List.cons_append,List.nil_append]
 | x::q,i,hq,hi,hs=>by
  obtain⟨h1,h2,h3⟩:=da hq;have d_a:decide ((i:Int)<l.length)=true:=by simp<;>omega
  have hx:=hs x yt;have d_c:decide ((x.length:Int)>200)=false:=by simp<;>omega
  have ih:=a20 o l hl K q (i+1) h3 h1 (fun y hy=>hs y (by simp[hy]))
  have hr:List.replicate (i+1) true=List.replicate i true++[true]:=List.replicate_succ';have hub:(riseT (l.take i)).length≤100:=by
    have:=bw (l.take i);rw[aao] at this;omega
  have inn:=ain o l hl (List.replicate i true++[true]) (riseT (l.take i)).length i x h2 (.c (.seq qc (.cond (.t 71) qb .skip)):: .b 1:: .c qa:: .c (.loop lq):: .b 0::K) (l.take i) 0 true rfl (aad _) yp;rw[xq h2,sk,hr] at ih;rw[Bool.true_and,a5l] at inn;have hne:List.replicate i true++[true]≠[]:=by simp
  simp only[lwE,lwM,m5 hne,List.map_append,List.map_cons,List.map_nil,Int.natCast_zero,List.cons_append,List.nil_append] at inn ih;refine Eq.trans (Eq.trans ?_ inn) (Eq.trans ?_ ih)
  · rw[go_loop]
    by_cases hz:i=0
    · have e0:List.replicate i true=[]:=by rw[hz];rfl
      simp only[lwM,e0,ox,List.map_nil,List.nil_append];simp(disch:=first|exact yo|fail) only[go_sem,X_aa,lwE,d_a,d_c,h2,txt,yz,List.cons_append,List.nil_append,List.map_nil]
    · have hi0:List.replicate i true≠[]:=by intro e;have:=congrArg List.length e;rw[List.length_replicate,List.length_nil] at this;exact hz this
      simp only[lwM,m5 hi0];simp(disch:=first|exact yo|fail) only[go_sem,X_aa,lwE,d_a,d_c,h2,txt,yz,List.cons_append,List.nil_append]
  · by_cases hm:x∈l.take i
    · rw[decide_eq_true hm,if_pos hm]
      simp(disch:=first|exact yo|fail) only[go_sem,X_aa,lwE,lwM,Bool.not_true,Nat.add_zero,List.cons_append,List.nil_append,Int.natCast_add]
    · rw[decide_eq_false hm,if_neg hm]
      simp(disch:=first|exact yo|fail) only[go_sem,X_aa,lwE,lwM,aa0,List.cons_append,List.nil_append,Int.natCast_add]
theorem a21 (o:Op) (l:List Tx) (hl:l.length≤100) (K:List Kf):∀ (q:List Tx) (i:Nat),l.drop i=q→i≤l.length→(∃ x∈q,200<x.length)→
  go X_aa (.c (.loop lq):: .b 0::K) ⟨lwE l (riseT (l.take i)).length i,lwM o l (List.replicate i true)⟩=some (.d (.bool (true)),[])
 | [],i,hq,hi,hs=>by obtain⟨x,hx,_⟩:=hs;cases hx
 | x::q,i,hq,hi,hs=>by
  obtain⟨h1,h2,h3⟩:=da hq;have d_a:decide ((i:Int)<l.length)=true:=by simp<;>omega
  by_cases hx:200<x.length
  · have d_c:decide ((x.length:Int)>200)=true:=by simp<;>omega
    rw[go_loop];simp(disch:=first|exact yo|fail) only[go_sem,X_aa,lwE,lwM,d_a,d_c,h2,txt,jk,yz]
  · have d_c:decide ((x.length:Int)>200)=false:=by simp<;>omega
    have ih:=a21 o l hl K q (i+1) h3 h1 (by
      obtain⟨y,hy,hl⟩:=hs;rcases zr.1 hy with rfl|hy
      · exact absurd hl hx
      · exact⟨y,hy,hl⟩)
    have hr:List.replicate (i+1) true=List.replicate i true++[true]:=List.replicate_succ';have hub:(riseT (l.take i)).length≤100:=by
      have:=bw (l.take i);rw[aao] at this;omega
    have inn:=ain o l hl (List.replicate i true++[true]) (riseT (l.take i)).length i x h2 (.c (.seq qc (.cond (.t 71) qb .skip)):: .b 1:: .c qa:: .c (.loop lq):: .b 0::K) (l.take i) 0 true rfl (aad _) yp;rw[xq h2,sk,hr] at ih;rw[Bool.true_and,a5l] at inn;have hne:List.replicate i true++[true]≠[]:=by simp
    simp only[lwE,lwM,m5 hne,List.map_append,List.map_cons,List.map_nil,Int.natCast_zero,List.cons_append,List.nil_append] at inn ih;refine Eq.trans (Eq.trans ?_ inn) (Eq.trans ?_ ih)
    · rw[go_loop]
      by_cases hz:i=0
      · have e0:List.replicate i true=[]:=by rw[hz];rfl
        simp only[lwM,e0,ox,List.map_nil,List.nil_append];simp(disch:=first|exact yo|fail) only[go_sem,X_aa,lwE,d_a,d_c,h2,txt,yz,List.cons_append,List.nil_append,List.map_nil]
      · have hi0:List.replicate i true≠[]:=by intro e;have:=congrArg List.length e;rw[List.length_replicate,List.length_nil] at this;exact hz this
        simp only[lwM,m5 hi0];simp(disch:=first|exact yo|fail) only[go_sem,X_aa,lwE,d_a,d_c,h2,txt,yz,List.cons_append,List.nil_append]
    · by_cases hm:x∈l.take i
      · rw[decide_eq_true hm,if_pos hm]
        simp(disch:=first|exact yo|fail) only[go_sem,X_aa,lwE,lwM,Bool.not_true,Nat.add_zero,List.cons_append,List.nil_append,Int.natCast_add]
      · rw[decide_eq_false hm,if_neg hm]
        simp(disch:=first|exact yo|fail) only[go_sem,X_aa,lwE,lwM,aa0,List.cons_append,List.nil_append,Int.natCast_add]
set_option maxRecDepth 100000
theorem can8:List.map D.can (List.take 8 [D.int .i64 7,.sl [],.sl [],.int .i64 0,.int .i64 0,.int .i64 0,.int .i64 0,.int .i64 2])=[D.int .i64 7,.sl [],.sl [],.int .i64 0,.int .i64 0,.int .i64 0,.int .i64 0,.int .i64 2]:=rfl
theorem or12:orI .i64 0 2=2∧orI .i64 1 2=3∧orI .i64 3 2=3:=yu
theorem kind_of {o:Op} (h:o.ve=1∨o.ve=2):ekN o 0=2*o.ve-2∧ekN o (ekN o 1)=2*o.ve-1:=by
 obtain⟨h1,h2,h3⟩:=or12;unfold ekN;rcases h with h|h
 · rw[if_neg yp,if_neg yp,h];exact⟨rfl,rfl⟩
 · rw[if_pos h,if_pos h,if_pos h,h1,h2,h3,h];exact⟨rfl,rfl⟩
theorem rx (l:List Tx) (hl:l.length<2 ^ 63) (o:Op):evL cfg n_aa 0 [.d (.sl (l.map txt)),.d o.d] []=some (.d (.bool (true)),[]):=by
 obtain⟨e,hck,hok⟩:=a4o o.co o.ch o.ve o.sh o.ro o.st;have hk:=known_ok;rw[o_aa];rcases y9 (decide ((l.length:Int)>100)) with d_a|d_a<;>have p_a:=d_a<;>simp only[zh,zb,zt,zi,ne_eq] at p_a
 · unfold optD at hck
   simp(disch:=first|exact yo|fail) only[go_sem,X_aa,c_aa,hk,Op.d,optD,d_a,yz]
 · cases c:(e !=0) with
   | true=>
    unfold optD at hck;simp(disch:=first|exact yo|fail) only[go_sem,X_aa,c_aa,hk,hck,Op.d,optD,d_a,c,yz]
   | false=>
    have he:e=0:=by simpa using c
    subst he;obtain⟨g1,g2,g3,g4,g5,g6⟩:=hok rfl;have ho:OpOk o:=⟨g1,g2,g3,g4⟩;have hf:=flat_two;have z2:((2:Nat):Int)=2:=rfl;have z3:((3:Nat):Int)=3:=rfl
    let R:List Kf:=[.c (.seq ah8 (.seq ah7 (.cond (.t 86) (.seq a2m .ret) (.seq ah6 (.seq ah5 (.cond (.t 100) (.seq ah4 .ret) (.seq ah3 .ret)))))))]
    have hpre:go X_aa [.c c_aa] ⟨entry 0 [.d (.sl (l.map txt)),.d o.d],[]⟩=go X_aa (.c (.loop lq):: .b 0::R) ⟨lwE l (riseT (l.take 0)).length 0,lwM o l (List.replicate 0 true)⟩:=by
      unfold optD at hck;simp only[nodT,typT,nod0,R] at hf ⊢;simp only[lwE,lwM,nodT,nod0,ox,List.replicate_zero,List.take_zero,show(riseT ([]:List Tx)).length=0 from rfl,Int.natCast_zero]
      simp(disch:=first|exact yo|fail) only[go_sem,X_aa,c_aa,hk,hck,hf,Op.d,optD,d_a,yz,z2,Int.reduceBNe,Int.reduceBEq]
    refine hpre.trans ?_;by_cases hs:∃ x∈l,200<x.length
    · exact a21 o l yp R l 0 rfl (aad _) hs
    · have ht:∀ x∈l,x.length≤200:=fun x hx=>by
       apply Classical.byContradiction;intro h;exact hs ⟨x,hx,by omega⟩
      refine(a20 o l yp R l 0 rfl (aad _) ht).trans ?_;have hto:=to_ans (List.replicate l.length true) l;have hn:(List.replicate l.length true).all id=true:=by simp
      obtain⟨kp,kw⟩:=kind_of g4;have hru:=bw l;obtain⟨m1,m2⟩:=se o.sh (n:=l.length) yp;have hsh:kj o.sh=o.sh:=by unfold kj;omega
      rw[hsh] at m1 m2;have wm:IntKind.i64.wrap (o.sh*(l.length:Int))=o.sh*(l.length:Int):=wrap_i64 yp yp;have hve:1≤o.ve∧o.ve≤2:=yp;have hwd:∀ b,o9 l o.sh=b↔(decide ((l.length:Int)>0)&&decide (100*((riseT l).length:Int)≤o.sh*(l.length:Int)))=b:=fun b=>by
       unfold o9;rw[hsh];have:decide (0<l.length)=decide ((l.length:Int)>0):=by rw[Bool.eq_iff_iff];simp only[zh];omega
       rw[this]
      have hhl:(List.replicate l.length true).length≤200:=by rw[List.length_replicate];omega
      have hne:l≠[]→List.replicate l.length true≠[]:=fun h e=>by
       have:=congrArg List.length e;rw[List.length_replicate,List.length_nil] at this;exact h (z8 this)
      have mw:∀ u:Nat,u≤100→IntKind.i64.wrap (100*(u:Int))=100*(u:Int):=fun u hu=>wrap_i64 yp yp
      have mu:=mw (riseT l).length yp;cases hw:o9 l o.sh with
      | true=>
       have h12:=(hwd true).1 hw;rw[ze] at h12;obtain⟨d1,d2⟩:=h12;have hlz:l≠[]:=by intro e;subst e;simp at d1
       obtain⟨y1,y2,y3,w⟩:=afc ho hck _ hhl hn l yp ht hw;simp only[colD,nodT,Op.d,optD,smD] at w hto;simp only[lwE,lwM,m5 (hne hlz),nodT,nod0,R,List.cons_append,List.nil_append];clear hwd hpre hck hk hf;simp(disch:=first|exact yo|fail) only[go_sem,X_aa,hto,w,can8,d1,d2,wm,mu,kw,z2,z3,yz,Int.reduceBNe,Int.reduceBEq,beq_self_eq_true]
       done
      | false=>
       have h12:=(hwd false).1 hw;obtain⟨y1,y2,w⟩:=afd ho hck _ hhl hn l yp ht hw;simp only[colD,nodT,Op.d,optD,smD] at w hto;clear hwd hpre hck hk hf;by_cases hz:l=[]
       · subst hz
         simp only[ku,List.length_nil,List.replicate_zero,List.map_nil] at w hto ⊢;simp only[lwE,lwM,ox,nodT,nod0,R,List.map_nil,List.length_nil,List.cons_append,List.nil_append];simp(disch:=first|exact yo|fail) only[go_sem,X_aa,hto,w,can8,kp,z2,z3,yz,List.map_nil,List.length_nil,Int.reduceBNe,Int.reduceBEq,beq_self_eq_true,Int.natCast_zero,gt_iff_lt,Int.reduceLT,decide_false]
         done
       · have:0<l.length:=aa2.2 hz
         have d_d:decide ((l.length:Int)>0)=true:=by simp<;>omega
         rw[d_d,Bool.true_and] at h12;simp only[lwE,lwM,m5 (hne hz),nodT,nod0,R,List.cons_append,List.nil_append];simp(disch:=first|exact yo|fail) only[go_sem,X_aa,hto,w,can8,d_d,h12,wm,mu,kp,z2,z3,yz,Int.reduceBNe,Int.reduceBEq,beq_self_eq_true]
         done
