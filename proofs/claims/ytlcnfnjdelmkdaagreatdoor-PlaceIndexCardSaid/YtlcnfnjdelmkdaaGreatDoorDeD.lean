import Derived.Test.YtlcnfnjdelmkdaaGreatDoorDeC
namespace Go.Proofs.YtlcnfnjdelmkdaaGreatDoor
open Go Go.Ev
set_option maxHeartbeats 4000000
theorem e46 (c:UInt8):((c.toNat:Int)==46)=decide (c=46):=by
 rw[aal];simp only[aaa,zm];constructor
 · intro h
   apply UInt8.toNat_inj.1;show c.toNat=46;omega
 · rintro rfl;rfl
theorem dg (L:List UInt8) (hL:L.length≤5000) (s:Nat) (neg:Bool) (K:List Kf):∀ (r:List UInt8) (i a b:Nat) (pt:Bool),L.drop i=r→i≤L.length→a+b≤i→
  go X_ac (.c (.loop x7):: .b 0::K) ⟨[(0,.d (.str (L))),(1,.d (.int .i64 ((s:Int)))),(6,.d (.bool (neg))),(7,.d (.int .i64 ((a:Int)))),(8,.d (.int .i64 ((b:Int)))),(9,.d (.bool (pt))),(10,.d (.int .i64 ((i:Int))))],[]⟩=
    match scanR r pt a b with
    |none=>some (.d (.tup [.int .i64 0,.int .i64 2]),[])
    |some (pt',a',b')=>go X_ac K ⟨[(0,.d (.str (L))),(1,.d (.int .i64 ((s:Int)))),(6,.d (.bool (neg))),(7,.d (.int .i64 ((a':Int)))),(8,.d (.int .i64 ((b':Int)))),(9,.d (.bool (pt'))),(10,.d (.int .i64 ((L.length:Int)))),(31,.d (.bool (false)))],[]⟩
 | [],i,a,b,pt,hr,hi,hab=>by
  have:L.length≤i:=by simpa using hr
  obtain rfl:i=L.length:=y8;have d_a:decide ((L.length:Int)<L.length)=false:=by simp<;>omega
  rw[go_loop];simp(disch:=first|exact y7|fail) only[go_sem,X_ac,d_a,scanR]
 | c::r,i,a,b,pt,hr,hi,hab=>by
  obtain⟨hlt,hc,hr'⟩:=bs3 hr;have d_a:decide ((i:Int)<L.length)=true:=by simp<;>omega
  have hc':L[(i:Int).toNat]? =some c:=by rw[zx];exact hc
  rw[go_loop,scanR];by_cases h46:c=46∧pt=false
  · obtain⟨rfl,rfl⟩:=h46
    have ih:=dg L hL s neg K r (i+1) a b true hr' y8 y8;rw[show(((i+1:Nat)):Int)=(i:Int)+1 by omega] at ih
    rw[if_pos zb];simp(disch:=first|exact y7|fail) only[go_sem,X_ac,d_a,hc',hc,aw,e46]
    exact ih
  · rw[if_neg h46]
    by_cases hd:digB c=false
    · rw[if_pos hd]
      have hd2:¬ (48≤c.toNat∧c.toNat≤57):=by
        intro e;simp[digB,e.1,e.2] at hd
      rcases zf (decide ((c.toNat:Int)<48)) with d_q|d_q<;>have p_q:=d_q<;>simp only[zm,zl,aaa,zp,ne_eq] at p_q
      · by_cases hq:c=46
        · have hpt:pt=true:=by
           rw[← zq];exact fun e=>h46 ⟨hq,e⟩
          subst hpt;have e:=decide_eq_true hq;simp(disch:=first|exact y7|fail) only[go_sem,X_ac,d_a,hc',hc,aw,e46,e,d_q]
        · have e:=decide_eq_false hq
          simp(disch:=first|exact y7|fail) only[go_sem,X_ac,d_a,hc',hc,aw,e46,e,d_q]
      · have d_z:decide ((c.toNat:Int)>57)=true:=by simp<;>omega
        have hq:c≠46:=by
          rintro rfl
          revert p_q;decide
        have e:=decide_eq_false hq;simp(disch:=first|exact y7|fail) only[go_sem,X_ac,d_a,hc',hc,aw,e46,e,d_q,d_z]
    · rw[if_neg hd]
      rw[zq] at hd;have hq:=anu hd;have e:=decide_eq_false hq;unfold digB at hd;simp only[zw,zm] at hd;have d_q:decide ((c.toNat:Int)<48)=false:=by simp<;>omega
      have d_z:decide ((c.toNat:Int)>57)=false:=by simp<;>omega
      cases pt
      · rw[if_neg zb]
        have ih:=dg L hL s neg K r (i+1) (a+1) b false hr' y8 y8;rw[show(((i+1:Nat)):Int)=(i:Int)+1 by omega,show(((a+1:Nat)):Int)=(a:Int)+1 by omega] at ih
        simp(disch:=first|exact y7|fail) only[go_sem,X_ac,d_a,hc',hc,aw,e46,e,d_q,d_z]
        exact ih
      · rw[if_pos rfl]
        have ih:=dg L hL s neg K r (i+1) a (b+1) true hr' y8 y8;rw[show(((i+1:Nat)):Int)=(i:Int)+1 by omega,show(((b+1:Nat)):Int)=(b:Int)+1 by omega] at ih
        simp(disch:=first|exact y7|fail) only[go_sem,X_ac,d_a,hc',hc,aw,e46,e,d_q,d_z]
        exact ih
theorem fi (L:List UInt8) (hL:L.length≤5000) (s b:Nat) (hb:b≤s) (hs:s≤18) (neg:Bool) (hdig:(L.filter (· !=46)).all digB=true):∀ (k i:Nat) (v:Int),i+k=L.length+(s-b)→inI v→
  go X_ac [.c (.loop qc),.b 3,.c (.seq po .ret)] ⟨[(0,.d (.str (L))),(1,.d (.int .i64 ((s:Int)))),(6,.d (.bool (neg))),(8,.d (.int .i64 ((b:Int)))),(11,.d (.int .i64 (v))),(12,.d (.int .i64 ((i:Int))))],[]⟩=
    some (.d (.tup [.int .i64 (foldV neg v ((L.drop i).filter (· !=46)++zer (min k (s-b)))).1,.int .i64 ((foldV neg v ((L.drop i).filter (· !=46)++zer (min k (s-b)))).2:Int)]),[])
 | 0,i,v,h,hv=>by
  have e:(L.drop i).filter (· !=46)++zer (min 0 (s-b))=[]:=by
    rw[aa6 y8];simp[zer]
  have d_a:decide ((i:Int)<(L.length:Int)+s-b)=false:=by simp<;>omega
  rw[go_loop,e];simp(disch:=first|exact y7|fail) only[go_sem,X_ac,d_a]
  rfl
 | k+1,i,v,h,hv=>by
  have d_a:decide ((i:Int)<(L.length:Int)+s-b)=true:=by simp<;>omega
  have hm:=yy (a:=v) (b:=10) hv (by unfold inI;omega)
  have hmi:inI (mulM v 10).1:=by unfold mulM;split<;>first|assumption| (unfold inI;simp)
  have one:∀ (d:Int) (rest:List UInt8) (c:UInt8) (tl:List (Nat×V)),(c.toNat:Int)-48=d→0≤d→d≤9→(L.drop i).filter (· !=46)++zer (min (k+1) (s-b))=c::rest→rest=(L.drop (i+1)).filter (· !=46)++zer (min k (s-b))→
      go X_ac [.c w9,.c (.seq (.seq w8 (.cond (.t 100) w7 .skip)) (.seq w6 (.seq (.seq wz (.cond (.t 114) (.seq wy .ret) .skip)) wx))),.b 4,.c ww,.c (.loop qc),.b 3,.c (.seq po .ret)]
        ⟨(0,.d (.str (L)))::(1,.d (.int .i64 ((s:Int))))::(6,.d (.bool (neg)))::(8,.d (.int .i64 ((b:Int))))::(11,.d (.int .i64 (v)))::(12,.d (.int .i64 ((i:Int))))::(13,.d (.int .i64 (d)))::tl,[]⟩=
      some (.d (.tup [.int .i64 (foldV neg v (c::rest)).1,.int .i64 ((foldV neg v (c::rest)).2:Int)]),[]):=by
    intro d rest c tl hcd h0 h9 _ hrest;have hsg:inI (sgn neg d):=by unfold sgn inI;split<;>omega
    have ha:=yz (a:=(mulM v 10).1) (b:=sgn neg d) hmi hsg;have hai:inI (addM (mulM v 10).1 (sgn neg d)).1:=by unfold addM;split<;>first|assumption| (unfold inI;simp)
    unfold foldV;rw[hcd];by_cases hq:(mulM v 10).2=true∧(addM (mulM v 10).1 (sgn neg d)).2=true
    · rw[if_pos hq]
      have ih:=fi L hL s b hb hs neg hdig k (i+1) (addM (mulM v 10).1 (sgn neg d)).1 y8 hai;rw[show(((i+1:Nat)):Int)=(i:Int)+1 by omega,← hrest] at ih
      rw[hq.1] at hm;rw[hq.2] at ha;cases neg
      · simp only[sgn,zh,if_false] at*
        simp(disch:=first|exact y7|fail) only[go_sem,X_ac,lk_st,hm,ha]
        exact ih
      · simp only[sgn,if_true] at*
        simp(disch:=first|exact y7|fail) only[go_sem,X_ac,lk_st,hm,ha]
        exact ih
    · rw[if_neg hq]
      by_cases q1:(mulM v 10).2=true
      · have q2:(addM (mulM v 10).1 (sgn neg d)).2=false:=by
          rw[← zu];exact fun e=>hq ⟨q1,e⟩
        rw[q1] at hm;rw[q2] at ha;cases neg
        · simp only[sgn,zh,if_false] at*
          simp(disch:=first|exact y7|fail) only[go_sem,X_ac,lk_st,hm,ha]
          rfl
        · simp only[sgn,if_true] at*
          simp(disch:=first|exact y7|fail) only[go_sem,X_ac,lk_st,hm,ha]
          rfl
      · rw[zu] at q1
        rw[q1] at hm;cases neg
        · simp only[sgn,zh,if_false] at*
          simp(disch:=first|exact y7|fail) only[go_sem,X_ac,lk_st,hm,ha]
          rfl
        · simp only[sgn,if_true] at*
          simp(disch:=first|exact y7|fail) only[go_sem,X_ac,lk_st,hm,ha]
          rfl
  rw[go_loop];by_cases hlt:i<L.length
  · have d_b:decide ((i:Int)<(L.length:Int))=true:=by simp<;>omega
    obtain⟨c,hc⟩:∃ c,L[i]? =some c:=⟨L[i],zo hlt⟩
    have hc':L[(i:Int).toNat]? =some c:=by rw[zx];exact hc
    have hdr:L.drop i=c::L.drop (i+1):=by
      rw[aa8 hlt]
      congr 1
      rw[zo hlt] at hc;exact Option.some.inj hc
    have hmin:min (k+1) (s-b)=min k (s-b):=y8;by_cases h46:c=46
    · subst h46
      have e:(L.drop i).filter (· !=46)++zer (min (k+1) (s-b))=(L.drop (i+1)).filter (· !=46)++zer (min k (s-b)):=by rw[hdr,hmin];rfl
      have ih:=fi L hL s b hb hs neg hdig k (i+1) v y8 hv;rw[show(((i+1:Nat)):Int)=(i:Int)+1 by omega] at ih
      rw[e];simp(disch:=first|exact y7|fail) only[go_sem,X_ac,d_a,d_b,hc',hc,aw,e46]
      exact ih
    · have e:=decide_eq_false h46
      have hcm:c∈L.filter (· !=46):=abb.2 ⟨List.mem_of_getElem? hc,by simpa using h46⟩
      have hd:=aax.1 hdig c hcm;unfold digB at hd;simp only[zw,zm] at hd;have w1:=vw (n:=(c.toNat:Int)-48) y8 y8;have hf:(L.drop i).filter (· !=46)++zer (min (k+1) (s-b))=c::((L.drop (i+1)).filter (· !=46)++zer (min k (s-b))):=by
        rw[hdr,hmin,List.filter_cons_of_pos (by simpa using h46)]
        rfl
      have h1:=one ((c.toNat:Int)-48) _ c [] rfl y8 y8 hf rfl;rw[hf];simp(disch:=first|exact y7|fail) only[go_sem,X_ac] at h1
      simp(disch:=first|exact y7|fail) only[go_sem,X_ac,d_a,d_b,hc',hc,aw,e46,e,w1]
      exact h1
  · have d_b:decide ((i:Int)<(L.length:Int))=false:=by simp<;>omega
    have hmin:min (k+1) (s-b)=k+1:=y8;have hmin2:min k (s-b)=k:=y8;have hf:(L.drop i).filter (· !=46)++zer (min (k+1) (s-b))=48::((L.drop (i+1)).filter (· !=46)++zer (min k (s-b))):=by
      rw[aa6 y8,aa6 y8,hmin,hmin2];rfl
    have h1:=one 0 _ 48 [(85,.d (.bool false))] rfl y8 y8 hf rfl;rw[hf];simp(disch:=first|exact y7|fail) only[go_sem,X_ac] at h1
    simp(disch:=first|exact y7|fail) only[go_sem,X_ac,d_a,d_b]
    exact h1
theorem gq {t:List UInt8} {s:Nat} (ht:t.length≤4000) (hs:s≤18):evL cfg n_ac 0 [.d (.str (t)),.d (.int .i64 ((s:Int)))] []=some (.d (.tup [.int .i64 (b6 t s).1,.int .i64 ((b6 t s).2:Int)]),[]):=by
 rw[o_ac,aux]
 have body:∀ (L:List UInt8) (neg:Bool) (tl:List (Nat×V)),L.length≤4000→
    go X_ac [.c bqo,.c (.seq bqn (.seq bqm (.seq (.seq bql (.block 0 (.loop x7))) (.seq ar4 (.cond (.t 68) (.seq ar3 .ret) (.seq xd (.cond (.t 71) (.seq xc .ret) (.seq xb (.seq (.seq xa (.block 3 (.loop qc))) (.seq po .ret))))))))))]
      ⟨(0,.d (.str (L)))::(1,.d (.int .i64 ((s:Int))))::(6,.d (.bool (neg)))::tl,[]⟩=
    some (.d (.tup [.int .i64 (match scanR L false 0 0 with
      |none=>((0:Int),(2:Nat))
      |some (pt,a,b)=>if a=0∨pt=true∧b=0 then(0,2) else if s<b then(0,4) else foldV neg 0 (L.filter (· !=46)++zer (s-b))).1,.int .i64 ((match scanR L false 0 0 with
      |none=>((0:Int),(2:Nat))
      |some (pt,a,b)=>if a=0∨pt=true∧b=0 then(0,2) else if s<b then(0,4) else foldV neg 0 (L.filter (· !=46)++zer (s-b))).2:Int)]),[]):=by
   intro L neg tl hl;have hsc:=fun K=>dg L y8 s neg K L 0 0 0 false rfl y8 y8
   rw[show((0:Nat):Int)=0 from rfl] at hsc
   have hcut:=wd L 0;have hcl:=xr L;cases hsr:scanR L false 0 0 with
   | none=>
    rw[hsr] at hsc;simp(disch:=first|exact y7|fail) only[go_sem,X_ac,lk_st,hsc]
    rfl
   | some q=>
    obtain⟨pt,a,b⟩:=q;rw[hsr] at hsc hcut;simp only at hsc ⊢;have hall:((cutM L).1.all digB&&(cutM L).2.1.all digB)=true:=by
      rw[← zq];intro e;rw[e] at hcut;simp at hcut
    rw[if_pos hall] at hcut;simp only[Option.some.injEq,Prod.mk.injEq,Nat.zero_add] at hcut;obtain⟨e1,e2,e3⟩:=hcut;have hdig:(L.filter (· !=46)).all digB=true:=by
      have hb:=ly L;rw[zw] at hall;rw[hb.1,List.filter_append,pf hall.1,List.all_append,hall.1];cases hq:(cutM L).2.2
      · simp
      · simp[pf hall.2,hall.2]
    by_cases h0:a=0∨pt=true∧b=0
    · rw[if_pos h0]
      by_cases ha:a=0
      · have q0:((a:Int)==0)=true:=by simp[ha]
        simp(disch:=first|exact y7|fail) only[go_sem,X_ac,lk_st,hsc,q0]
        rfl
      · have q0:((a:Int)==0)=false:=by simp[ha]
        have hpt:pt=true:=by rcases h0 with h|h;exact absurd h ha;exact h.1
        have q1:((b:Int)==0)=true:=by rcases h0 with h|h;exact absurd h ha;simp[h.2]
        subst hpt;simp(disch:=first|exact y7|fail) only[go_sem,X_ac,lk_st,hsc,q0,q1]
        rfl
    · rw[if_neg h0]
      have q0:((a:Int)==0)=false:=by simp;exact fun e=>h0 (.inl e)
      have fin:go X_ac [.c xd,.c (.cond (.t 71) (.seq xc .ret) (.seq xb (.seq (.seq xa (.block 3 (.loop qc))) (.seq po .ret))))]
          ⟨[(0,.d (.str (L))),(1,.d (.int .i64 ((s:Int)))),(6,.d (.bool (neg))),(8,.d (.int .i64 ((b:Int)))),(68,.d (.bool (false)))],[]⟩=
          some (.d (.tup [.int .i64 (if s<b then((0:Int),(4:Nat)) else foldV neg 0 (L.filter (· !=46)++zer (s-b))).1,.int .i64 ((if s<b then((0:Int),(4:Nat)) else foldV neg 0 (L.filter (· !=46)++zer (s-b))).2:Int)]),[]):=by
        by_cases hsb:s<b
        · have d_z:decide ((b:Int)>s)=true:=by simp<;>omega
          rw[if_pos hsb];simp(disch:=first|exact y7|fail) only[go_sem,X_ac,d_z]
          rfl
        · have d_z:decide ((b:Int)>s)=false:=by simp<;>omega
          rw[if_neg hsb];have hf:=fi L y8 s b y8 hs neg hdig (L.length+(s-b)) 0 0 y8 (by unfold inI;omega)
          rw[List.drop_zero,show min (L.length+(s-b)) (s-b)=s-b by omega,show((0:Nat):Int)=0 from rfl] at hf
          simp(disch:=first|exact y7|fail) only[go_sem,X_ac,d_z]
          exact hf
      simp(disch:=first|exact y7|fail) only[go_sem,X_ac] at fin
      cases pt
      · simp(disch:=first|exact y7|fail) only[go_sem,X_ac,lk_st,hsc,q0]
        exact fin
      · have q1:((b:Int)==0)=false:=by simp;exact fun e=>h0 (.inr ⟨rfl,e⟩)
        simp(disch:=first|exact y7|fail) only[go_sem,X_ac,lk_st,hsc,q0,q1]
        exact fin
 unfold restS;by_cases h45:t.head? =some 45
 · rw[if_pos h45,decide_eq_true h45]
   cases t with
   |nil=>cases h45
   | cons c t=>
    have hc:c=45:=by simpa using h45
    subst hc;have hb:=body t true [] (by simp only[List.length_cons] at ht;omega)
    have d_a:decide (((t.length+1:Nat):Int)>0)=true:=by simp<;>omega
    simp(disch:=first|exact y7|fail) only[go_sem,X_ac,c_ac,d_a,show((0:Int)<0)=False by simp,show(0:Int).toNat=0 by rfl,show(1:Int).toNat=1 by rfl,aw,show(((45:UInt8).toNat:Int)==45)=true by rfl,List.take_length,List.drop_succ_cons,List.drop_zero,List.take_succ_cons]
    simp(disch:=first|exact y7|fail) only[go_sem,X_ac] at hb
    exact hb
 · rw[if_neg h45,decide_eq_false h45]
   have hb:=body t false [(25,.d (.bool (false)))] ht;cases t with
   | nil=>
    simp(disch:=first|exact y7|fail) only[go_sem,X_ac,c_ac,show decide ((0:Int)>0)=false by decide]
    simp(disch:=first|exact y7|fail) only[go_sem,X_ac] at hb
    exact hb
   | cons c t=>
    have d_a:decide (((t.length+1:Nat):Int)>0)=true:=by simp<;>omega
    have hc:((c.toNat:Int)==45)=false:=by
      simp only[zp,ne_eq];intro e;apply h45;have:c=45:=by
        apply UInt8.toNat_inj.1;show c.toNat=45;omega
      rw[this];rfl
    simp(disch:=first|exact y7|fail) only[go_sem,X_ac,c_ac,d_a,show((0:Int)<0)=False by simp,show(0:Int).toNat=0 by rfl,aw,hc]
    simp(disch:=first|exact y7|fail) only[go_sem,X_ac] at hb
    exact hb
