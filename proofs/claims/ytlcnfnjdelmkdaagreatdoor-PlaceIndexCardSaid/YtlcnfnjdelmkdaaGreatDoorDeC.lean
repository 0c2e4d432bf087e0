import Derived.Test.YtlcnfnjdelmkdaaGreatDoorDeA
import Derived.Test.YtlcnfnjdelmkdaaGreatDoorL9
import Derived.Test.YtlcnfnjdelmkdaaGreatDoorL10
namespace Go.Proofs.YtlcnfnjdelmkdaaGreatDoor
open Go Go.Ev
set_option maxHeartbeats 4000000
theorem clampS {s:Nat} (h:s≤18):min (max (s:Int) 0) 18=s:=y8
theorem bfn {k:Nat} (h:k≤1000):evL cfg n_ft 0 [.d (.str ([48])),.d (.int .i64 ((k:Int)))] []=some (.d (.str (zer k)),[]):=by
 rw[xn (g:=ph) rfl];have e:allD [.d (.str ([48])),.d (.int .i64 ((k:Int)))]=some [.str [48],.int .i64 (k:Int)]:=rfl;rw[e];simp only[Option.bind_some,ph];have c:0≤(k:Int)∧(k:Int)≤1000∧([48]:List UInt8).length≤1000:=⟨by omega,by omega,by decide⟩
 rw[if_pos c,zx,ul];rfl
theorem jh:∀ (k n:Nat) (s:List UInt8),n<10 ^ (k+1)→n<18446744073709551616→s.length+k≤100→
  go X_bt [.c (.loop btt),.b 0,.c (.seq biw .ret)] ⟨[(0,.d (.int .u64 ((n:Int)))),(3,.d (.str (UInt8.ofNat (48+n % 10)::s)))],[]⟩=some (.d (.str (decF (k+1) n++s)),[])
 | k,n,s,h,h',hs=>by
  by_cases c:n<10
  · have d_a:decide ((n:Int)≥10)=false:=by simp<;>omega
    rw[go_loop,lw,if_pos c];simp(disch:=first|exact y7|fail) only[go_sem,X_bt,d_a,show n % 10=n by omega]
  · cases k with
    |zero=>simp at h;omega
    | succ k=>
     have d_a:decide ((n:Int)≥10)=true:=by simp<;>omega
     have ih:=jh k (n / 10) (UInt8.ofNat (48+n % 10)::s) (by rw[Nat.pow_succ] at h;omega) y8 (by simp only[List.length_cons];omega)
     have e1:((n:Int)).tdiv 10=((n / 10:Nat):Int):=by rw[tdp y8];omega
     have e2:(((n / 10:Nat):Int)).tmod 10=((n / 10 % 10:Nat):Int):=by rw[tmp y8];omega
     have e3:(48+((n / 10 % 10:Nat):Int)).toNat=48+n / 10 % 10:=y8;rw[go_loop,lw,if_neg c,aad];simp(disch:=first|exact y7|fail) only[go_sem,X_bt,d_a,gz,d7,e1,e2,vw,e3]
     exact ih
theorem qu {u:Nat} (h:u<18446744073709551616):evL cfg n_bt 0 [.d (.int .u64 ((u:Int)))] []=some (.d (.str (decF 20 u)),[]):=by
 rw[o_bt];have hl:=jh 19 u [] y8 h zb;rw[List.append_nil] at hl;have e2:((u:Int)).tmod 10=((u % 10:Nat):Int):=by rw[tmp y8];omega
 have e3:(48+((u % 10:Nat):Int)).toNat=48+u % 10:=y8;simp(disch:=first|exact y7|fail) only[go_sem,X_bt,c_bt,d7,e2,vw,e3,hl]
theorem fm (u:Nat):∀ (n:Int) (tl:List (Nat×V)),u<18446744073709551616→0≤n→n+(digN u:Int)≤1000→
  go X_bn [.c (.loop avs),.b 4,.c (.exit 0),.b 0,.c (.seq aop .ret)] ⟨(3,.d (.int .i64 (n)))::(4,.d (.int .u64 ((u:Int))))::tl,[]⟩=some (.d (.int .i64 (n-1+(digN u:Int))),[]):=by
 induction u using Nat.strongRecOn with
 | _ u ih=>
  intro n tl hu h0 h1;by_cases c:u<10
  · have d_a:decide ((u:Int)≥10)=false:=by simp<;>omega
    rw[go_loop,bgw c,show n-1+((1:Nat):Int)=n by omega]
    simp(disch:=first|exact y7|fail) only[go_sem,X_bn,lk_st,d_a]
  · have d_a:decide ((u:Int)≥10)=true:=by simp<;>omega
    have hst:=du c y8;have i2:=ih (u / 10) y8 (n+1) [] y8 y8 y8;have e1:((u:Int)).tdiv 10=((u / 10:Nat):Int):=by rw[tdp y8];omega
    rw[show n+1-1+(digN (u / 10):Int)=n-1+(digN u:Int) by omega] at i2
    rw[go_loop];simp(disch:=first|exact y7|fail) only[go_sem,X_bn,lk_st,d_a,gz,e1]
    exact i2
theorem lv {v:Int} (hv:inI v):evL cfg n_bn 0 [.d (.int .i64 (v))] []=some (.d (.int .i64 ((digN v.natAbs:Int))),[]):=by
 rw[o_bn];have z1:=xq hv;have hu:v.natAbs<18446744073709551616:=by unfold inI at hv;omega
 generalize v.natAbs=u at *;have e8:∀ u:Nat,((u:Int)).tdiv 100000000=((u / 100000000:Nat):Int):=fun u=>by rw[tdp y8];omega
 have hd:=digN_le u;by_cases c1:10000000000000000≤u
 · have d_a:decide ((u:Int)≥10000000000000000)=true:=by simp<;>omega
   have h1:=p6 (n:=u) y8 y8;have h2:=p6 (n:=u / 100000000) y8 y8;have hl:=fm (u / 100000000 / 100000000) 17 [] y8 y8 y8;rw[show(17:Int)-1+(digN (u / 100000000 / 100000000):Int)=(digN u:Int) by omega] at hl
   simp(disch:=first|exact y7|fail) only[go_sem,X_bn,c_bn,z1,d_a,gz,e8,hl]
 · have d_a:decide ((u:Int)≥10000000000000000)=false:=by simp<;>omega
   by_cases c2:100000000≤u
   · have d_b:decide ((u:Int)≥100000000)=true:=by simp<;>omega
     have h1:=p6 (n:=u) y8 y8;have hl:=fm (u / 100000000) 9 [] y8 y8 y8;rw[show(9:Int)-1+(digN (u / 100000000):Int)=(digN u:Int) by omega] at hl
     simp(disch:=first|exact y7|fail) only[go_sem,X_bn,c_bn,z1,d_a,d_b,gz,e8,hl]
   · have d_b:decide ((u:Int)≥100000000)=false:=by simp<;>omega
     have hl:=fm u 1 [(10,.d (.bool false))] y8 y8 y8;rw[show(1:Int)-1+(digN u:Int)=(digN u:Int) by omega] at hl
     simp(disch:=first|exact y7|fail) only[go_sem,X_bn,c_bn,z1,d_a,d_b,gz,e8,hl]
theorem j5 {v:Int} (hv:inI v):evL cfg n_db 0 [.d (.int .i64 (v))] []=some (.d (.int .i64 ((digN v.natAbs:Int))),[]):=by
 rw[o_db];have z1:=tt hv;have f1:=qu (u:=v.natAbs) (by unfold inI at hv;omega)
 simp(disch:=first|exact y7|fail) only[go_sem,X_db,c_db,z1,f1]
 rfl
theorem bs3 {α:Type} {l:List α} {i:Nat} {c:α} {r:List α} (hr:l.drop i=c::r):i<l.length∧l[i]? =some c∧l.drop (i+1)=r:=by
 have hlt:i<l.length:=by
   apply Classical.byContradiction;intro h;rw[aa6 y8] at hr;cases hr
 refine⟨hlt,?_,?_⟩
 · have:=congrArg (·[0]?) hr
   simpa using this
 · rw[← List.drop_drop,hr];rfl
theorem trim_ans {t:List UInt8} (h:t.length≤5000):evL cfg n_fz 0 [.d (.str (t)),.d (.str ([48,49,50,51,52,53,54,55,56,57]))] []=some (.d (.str (Lib.trimS t [48,49,50,51,52,53,54,55,56,57])),[]):=by
 rw[xn (g:=xTrim) rfl];have e:allD [.d (.str (t)),.d (.str ([48,49,50,51,52,53,54,55,56,57]))]=some [.str t,.str [48,49,50,51,52,53,54,55,56,57]]:=rfl;rw[e];simp only[Option.bind_some,xTrim];have c:t.length≤1000000∧([48,49,50,51,52,53,54,55,56,57]:List UInt8).length≤1000∧ascii [48,49,50,51,52,53,54,55,56,57]=true:=⟨by omega,by decide,by decide⟩
 rw[if_pos c];rfl
theorem mz {t:List UInt8} (h:t.length≤5000):evL cfg n_em 0 [.d (.str (t))] []=some (.d (.bool (dz t)),[]):=by
 rw[o_em];have ht:=trim_ans h;have hd:=trim_dig t;unfold dz;cases t with
 |nil=>simp(disch:=first|exact y7|fail) only[go_sem,X_em,c_em,ht,hd,show(([]:List UInt8)==[])=true by rfl]
 |cons c t=>simp(disch:=first|exact y7|fail) only[go_sem,X_em,c_em,ht,hd,show((c::t)==[])=false by rfl]
theorem bsi (t:List UInt8):evL cfg n_fo 0 [.d (.str (t)),.d (.str ([46]))] []=some (.d (.int .i64 (Lib.indexByte t 46)),[]):=by
 rw[xn (g:=ra) rfl];rfl
theorem am2 (t:List UInt8) (h:t.length≤5000):evL cfg n_ck 0 [.d (.str (t)),.d (.str ([46]))] []=some (.d (.tup [.str (cutM t).1,.str (cutM t).2.1,.bool (cutM t).2.2]),[]):=by
 rw[o_ck];have hi:=bsi t;have hx:=anf t;have hb:=ly t;generalize cutM t=q at *;obtain⟨w,p,pt⟩:=q;simp only at *;cases pt
 · simp only[zh,if_false] at hx hb
   rw[hx] at hi;have hp:=hb.2 trivial;have ht:t=w:=by simpa using hb.1
   subst ht;subst hp;simp(disch:=first|exact y7|fail) only[go_sem,X_ck,c_ck,hi,show decide ((-1:Int)≥0)=false by decide]
 · simp only[if_true] at hx hb
   rw[hx] at hi;have ht:t=w++46::p:=hb.1;have hlen:t.length=w.length+(p.length+1):=by rw[ht];simp
   have d_a:decide ((w.length:Int)≥0)=true:=by simp<;>omega
   have e1:t.take w.length=w:=by rw[ht];simp
   have e2:t.drop (w.length+1)=p:=by rw[ht,← List.drop_drop];simp
   have e3:((w.length:Int)+1).toNat=w.length+1:=y8;simp(disch:=first|exact y7|fail) only[go_sem,X_ck,c_ck,hi,d_a,zx,show((1:Nat):Int)=1 by rfl,e1,e2,e3,List.drop_zero,List.take_length]
theorem rl (t:List UInt8) (h:t.length≤5000):evL cfg n_ej 0 [.d (.str (t)),.d (.str ([46]))] []=some (.d (.tup [.str (cutM t).1,.str (cutM t).2.1,.bool (cutM t).2.2]),[]):=by
 rw[o_ej];have h1:=am2 t h;simp(disch:=first|exact y7|fail) only[go_sem,X_ej,c_ej,h1]
theorem ov (t:List UInt8) (h:t.length≤5000):evL cfg n_cq 0 [.d (.str (t)),.d (.str ([45]))] []=some (.d (.bool (decide (t.head? =some 45))),[]):=by
 rw[o_cq];cases t with
 |nil=>simp(disch:=first|exact y7|fail) only[go_sem,X_cq,c_cq,show decide ((0:Int)≥1)=false by decide];rfl
 | cons c t=>
  have d_a:decide (((t.length+1:Nat):Int)≥1)=true:=by simp<;>omega
  have e:(([c]:List UInt8)==[45])=decide ((c::t).head? =some 45):=by
   by_cases hc:c=45
   · subst hc;rfl
   · simp[hc]
  simp(disch:=first|exact y7|fail) only[go_sem,X_cq,c_cq,d_a,show((0+1:Nat):Int)=1 by rfl,show((1:Nat):Int)=1 by rfl,show(1:Int).toNat=1 by rfl,List.take_succ_cons,List.take_zero,List.drop_zero,e]
theorem ox (t:List UInt8) (h:t.length≤5000):evL cfg n_b6 0 [.d (.str (t)),.d (.str ([45]))] []=some (.d (.tup [.str (restS t),.bool (decide (t.head? =some 45))]),[]):=by
 rw[o_b6];have h1:=ov t h;unfold restS;by_cases c:t.head? =some 45
 · rw[decide_eq_true c] at h1 ⊢
   rw[if_pos c];cases t with
   |nil=>cases c
   | cons x t=>
    simp(disch:=first|exact y7|fail) only[go_sem,X_b6,c_b6,h1,show((0+1:Nat):Int)=1 by rfl,show((1:Nat):Int)=1 by rfl,show(1:Int).toNat=1 by rfl,List.take_length,List.drop_succ_cons,List.drop_zero,List.tail_cons,List.take_succ_cons]
 · rw[decide_eq_false c] at h1 ⊢
   rw[if_neg c];simp(disch:=first|exact y7|fail) only[go_sem,X_b6,c_b6,h1]
theorem kg (t:List UInt8) (h:t.length≤5000):evL cfg n_dc 0 [.d (.str (t)),.d (.str ([45]))] []=some (.d (.tup [.str (restS t),.bool (decide (t.head? =some 45))]),[]):=by
 rw[o_dc];have h1:=ox t h;simp(disch:=first|exact y7|fail) only[go_sem,X_dc,c_dc,h1]
theorem xl:∀ (l:List UInt8) (neg:Bool) (v:Int),inI v→inI (foldV neg v l).1∧(foldV neg v l).2≤4
 | [],_,v,h=>⟨h,by simp[foldV]⟩
 | c::r,neg,v,h=>by
  unfold foldV;split
  · rename_i hq
    refine xl r neg _ ?_;have h2:=hq.2;unfold addM at h2 ⊢;split
    · rename_i hi;exact hi
    · unfold inI;simp
  · exact⟨by unfold inI;simp,by simp⟩
theorem ii (neg:Bool) (L:List UInt8) (hL:L.all digB=true) (hlen:L.length≤10000):∀ (r:List UInt8) (i:Nat) (v:Int),L.drop i=r→i≤L.length→inI v→
  go X_ay [.c (.loop avw),.b 1,.c (.seq apf .ret)] ⟨[(7,.d (.bool (neg))),(11,.d (.int .i64 (v))),(59,.d (.sl ((L).map byteD))),(60,.d (.int .i64 ((L.length:Int)))),(61,.d (.int .i64 ((i:Int))))],[]⟩=some (.d (.tup [.int .i64 (foldV neg v r).1,.int .i64 ((foldV neg v r).2:Int)]),[])
 | [],i,v,hr,hi,hv=>by
  have:L.length≤i:=by simpa using hr
  have d_a:decide ((i:Int)<L.length)=false:=by simp<;>omega
  rw[go_loop];simp(disch:=first|exact y7|fail) only[go_sem,X_ay,d_a]
  rfl
 | c::r,i,v,hr,hi,hv=>by
  obtain⟨hlt,hc,hr'⟩:=bs3 hr;have hdig:=aax.1 hL c (List.mem_of_getElem? hc);unfold digB at hdig;simp at hdig;have d_a:decide ((i:Int)<L.length)=true:=by simp<;>omega
  have hm:=amw (a:=v) (b:=10) hv (by unfold inI;omega)
  have hmi:inI (mulM v 10).1:=by unfold mulM;split<;>first|assumption| (unfold inI;simp)
  have hsg:inI (sgn neg ((c.toNat:Int)-48)):=by unfold sgn inI;split<;>omega
  have ha:=amx (a:=(mulM v 10).1) (b:=sgn neg ((c.toNat:Int)-48)) hmi hsg;have hai:inI (addM (mulM v 10).1 (sgn neg ((c.toNat:Int)-48))).1:=by unfold addM;split<;>first|assumption| (unfold inI;simp)
  have w1:=vw (n:=(c.toNat:Int)-48) y8 y8;rw[go_loop];unfold foldV;by_cases hq:(mulM v 10).2=true∧(addM (mulM v 10).1 (sgn neg ((c.toNat:Int)-48))).2=true
  · rw[if_pos hq]
    have ih:=ii neg L hL hlen r (i+1) (addM (mulM v 10).1 (sgn neg ((c.toNat:Int)-48))).1 hr' y8 hai;rw[show(((i+1:Nat)):Int)=(i:Int)+1 by omega] at ih
    rw[hq.1] at hm;rw[hq.2] at ha;cases neg
    · simp only[sgn,zh,if_false] at*
      simp(disch:=first|exact y7|fail) only[go_sem,X_ay,d_a,hc,aw,w1,hm,ha]
      exact ih
    · simp only[sgn,if_true] at*
      simp(disch:=first|exact y7|fail) only[go_sem,X_ay,d_a,hc,aw,w1,hm,ha]
      exact ih
  · rw[if_neg hq]
    by_cases q1:(mulM v 10).2=true
    · have q2:(addM (mulM v 10).1 (sgn neg ((c.toNat:Int)-48))).2=false:=by
        rw[← zu];exact fun e=>hq ⟨q1,e⟩
      rw[q1] at hm;rw[q2] at ha;cases neg
      · simp only[sgn,zh,if_false] at*
        simp(disch:=first|exact y7|fail) only[go_sem,X_ay,d_a,hc,aw,w1,hm,ha]
        rfl
      · simp only[sgn,if_true] at*
        simp(disch:=first|exact y7|fail) only[go_sem,X_ay,d_a,hc,aw,w1,hm,ha]
        rfl
    · rw[zu] at q1
      rw[q1] at hm;cases neg
      · simp only[sgn,zh,if_false] at*
        simp(disch:=first|exact y7|fail) only[go_sem,X_ay,d_a,hc,aw,w1,hm,ha]
        rfl
      · simp only[sgn,if_true] at*
        simp(disch:=first|exact y7|fail) only[go_sem,X_ay,d_a,hc,aw,w1,hm,ha]
        rfl
theorem xr:∀ t:List UInt8,(cutM t).1.length+(cutM t).2.1.length≤t.length
 | []=>by simp[cutM]
 | c::t=>by
  unfold cutM;split
  · simp
  · have:=xr t
    simp only[List.length_cons];omega
theorem bhr (t:List UInt8):(restS t).length≤t.length:=by
 unfold restS;split<;>simp
theorem zer_len (k:Nat):(zer k).length=k:=by simp[zer]
theorem tv {t:List UInt8} {s:Nat} (ht:t.length≤4000) (hs:s≤18):evL cfg n_ay 0 [.d (.str (t)),.d (.int .i64 ((s:Int)))] []=some (.d (.tup [.int .i64 (b6 t s).1,.int .i64 ((b6 t s).2:Int)]),[]):=by
 rw[o_ay];have c1:=clampS hs;have hc:=kg t y8;have hl1:=bhr t;have hk:=rl (restS t) y8;have hl2:=xr (restS t);unfold b6;have hcb:=(ly (restS t)).2;generalize cutM (restS t)=q at *;obtain⟨w,p,pt⟩:=q;simp only at *;have pw:=mz (t:=w) y8;have pp:=mz (t:=p) y8;generalize decide (t.head? =some 45)=neg at *;cases hw:dz w
 · rw[hw] at pw
   rw[if_pos (.inl rfl)];simp(disch:=first|exact y7|fail) only[go_sem,X_ay,c_ay,c1,hc,hk,pw]
   rfl
 · rw[hw] at pw
   by_cases hp:pt=true∧dz p=false
   · rw[if_pos (.inr hp)]
     rw[hp.2] at pp;obtain⟨rfl,_⟩:=hp;simp(disch:=first|exact y7|fail) only[go_sem,X_ay,c_ay,c1,hc,hk,pw,pp]
     rfl
   · rw[if_neg (by simpa using hp)]
     have tail:go X_ay [.c c_ay] ⟨[(0,.d (.str (t))),(1,.d (.int .i64 ((s:Int))))],[]⟩=some (.d (.tup [.int .i64 (if s<p.length then((0:Int),4) else foldV neg 0 (w++p++zer (s-p.length))).1,.int .i64 (((if s<p.length then((0:Int),4) else foldV neg 0 (w++p++zer (s-p.length))).2:Nat):Int)]),[]):=by
      by_cases hlt:s<p.length
      · have d_a:decide ((p.length:Int)>s)=true:=by simp<;>omega
        rw[if_pos hlt];cases pt
        · simp(disch:=first|exact y7|fail) only[go_sem,X_ay,c_ay,c1,hc,hk,pw,d_a]
          rfl
        · have hp':dz p=true:=by
            rw[← zq];exact fun e=>hp ⟨rfl,e⟩
          rw[hp'] at pp;simp(disch:=first|exact y7|fail) only[go_sem,X_ay,c_ay,c1,hc,hk,pw,pp,d_a]
          rfl
      · have d_a:decide ((p.length:Int)>s)=false:=by simp<;>omega
        rw[if_neg hlt];have r1:=bfn (k:=s-p.length) y8;have e1:(s:Int)-p.length=((s-p.length:Nat):Int):=y8;have hz:=zer_len (s-p.length);cases pt
        · have hdw:w.all digB=true:=by unfold dz at hw;simp only[zw] at hw;exact hw.2
          by_cases hp0:p=[]
          · have hall:(w++p++zer (s-p.length)).all digB=true:=by rw[List.all_append,List.all_append,hdw,hp0,bs4];rfl
            have hl:=ii neg (w++p++zer (s-p.length)) hall (by rw[aae,aae];omega) _ 0 0 rfl y8 (by unfold inI;omega)
            rw[List.drop_zero,show((0:Nat):Int)=0 from rfl,aae,aae] at hl
            simp(disch:=first|exact y7|fail) only[go_sem,X_ay,c_ay,c1,hc,hk,pw,d_a,e1,r1,zj]
            exact hl
          · exact absurd (hcb rfl) hp0
        · have hp':dz p=true:=by
            rw[← zq];exact fun e=>hp ⟨rfl,e⟩
          rw[hp'] at pp;have hdw:w.all digB=true:=by unfold dz at hw;simp only[zw] at hw;exact hw.2
          have hdp:p.all digB=true:=by unfold dz at hp';simp only[zw] at hp';exact hp'.2
          have hall:(w++p++zer (s-p.length)).all digB=true:=by rw[List.all_append,List.all_append,hdw,hdp,bs4];rfl
          have hl:=ii neg (w++p++zer (s-p.length)) hall (by rw[aae,aae];omega) _ 0 0 rfl y8 (by unfold inI;omega)
          rw[List.drop_zero,show((0:Nat):Int)=0 from rfl,aae,aae] at hl
          simp(disch:=first|exact y7|fail) only[go_sem,X_ay,c_ay,c1,hc,hk,pw,pp,d_a,e1,r1,zj]
          exact hl
     exact tail
