import Derived.Test.YtpnhljhciibfnaaGreatDoorDeA
import Derived.Test.YtpnhljhciibfnaaGreatDoorL9
import Derived.Test.YtpnhljhciibfnaaGreatDoorL10
namespace Go.Proofs.YtpnhljhciibfnaaGreatDoor
open Go Go.Ev
set_option maxHeartbeats 4000000
theorem W7 {s:Nat} (h:s≤18):min (max (s:Int) 0) 18=s:=aa1
theorem lZ {n:Int} (h:0≤n∧n<18446744073709551616∧(10:Int)=10):HB [.int .u64 n,.int .i64 10]=some (.d (.str (B2 20 n.toNat))):=if_pos h
theorem Wh {u:Nat} (h:u<18446744073709551616):evL cfg V5 0 [.d (.int .u64 ((u:Int))),.d (.int .i64 (10))] []=some (.d (.str (B2 20 u)),[]):=by
 rw[qz (g:=HB) rfl];have e:CC [.d (.int .u64 ((u:Int))),.d (.int .i64 (10))]=some [.int .u64 (u:Int),.int .i64 10]:=rfl;rw[e];rw[Option.bind_some,lZ ⟨by omega,by omega,rfl⟩,abt,Option.map_some]
theorem wm {k:Nat} (h:k≤1000):evL cfg TF 0 [.d (.str ([48])),.d (.int .i64 ((k:Int)))] []=some (.d (.str (zer k)),[]):=by
 rw[qz (g:=qj) rfl];have e:CC [.d (.str ([48])),.d (.int .i64 ((k:Int)))]=some [.str [48],.int .i64 (k:Int)]:=rfl;rw[e];simp only[Option.bind_some,qj];have c:0≤(k:Int)∧(k:Int)≤1000∧([48]:List UInt8).length≤1000:=⟨by omega,by omega,by decide⟩
 rw[if_pos c,abt,wl];rfl
theorem jy:∀ (k n:Nat) (s:List UInt8),n<10 ^ (k+1)→n<18446744073709551616→s.length+k≤100→
  go Xl [.c (.loop btv),.b 0,.c (.seq biy .ret)] ⟨[(0,.d (.int .u64 ((n:Int)))),(3,.d (.str (UInt8.ofNat (48+n % 10)::s)))],[]⟩=some (.d (.str (B2 (k+1) n++s)),[])
 | k,n,s,h,h',hs=>by
  by_cases c:n<10
  · have d_a:decide ((n:Int)≥10)=false:=by simp<;>omega
    rw[go_loop,jf,if_pos c];simp(disch:=first|exact aa0|fail) only[go_sem,Xl,d_a,show n % 10=n by omega]
  · cases k with
    |zero=>simp at h;omega
    | succ k=>
     have d_a:decide ((n:Int)≥10)=true:=by simp<;>omega
     have ih:=jy k (n / 10) (UInt8.ofNat (48+n % 10)::s) (by rw[Nat.pow_succ] at h;omega) aa1 (by simp only[List.length_cons];omega)
     have e1:((n:Int)).tdiv 10=((n / 10:Nat):Int):=by rw[tdp aa1];omega
     have e2:(((n / 10:Nat):Int)).tmod 10=((n / 10 % 10:Nat):Int):=by rw[tmp aa1];omega
     have e3:(48+((n / 10 % 10:Nat):Int)).toNat=48+n / 10 % 10:=aa1;rw[go_loop,jf,if_neg c,abv];simp(disch:=first|exact aa0|fail) only[go_sem,Xl,d_a,i6,gr,e1,e2,xz,e3]
     exact ih
theorem kx {u:Nat} (h:u<18446744073709551616):evL cfg Rw 0 [.d (.int .u64 ((u:Int)))] []=some (.d (.str (B2 20 u)),[]):=by
 rw[o_bu];have hl:=jy 19 u [] aa1 h aa3;rw[List.append_nil] at hl;have e2:((u:Int)).tmod 10=((u % 10:Nat):Int):=by rw[tmp aa1];omega
 have e3:(48+((u % 10:Nat):Int)).toNat=48+u % 10:=aa1;simp(disch:=first|exact aa0|fail) only[go_sem,Xl,aP,gr,e2,xz,e3,hl]
theorem rc (n:Nat):1≤(B2 20 n).length∧(B2 20 n).length≤20:=bs7 n
theorem zr {v:Int} {s:Nat} (hv:inI v) (hs:s≤18):evL cfg Tt 0 [.d (.int .i64 (v)),.d (.int .i64 ((s:Int)))] []=some (.d (.str (Al v s)),[]):=by
 rw[o_b7];have c1:=W7 hs;have z1:=p9 hv;have f1:=Wh (u:=v.natAbs) (by unfold inI at hv;omega)
 unfold Al HL;have hl:=rc v.natAbs;generalize B2 20 v.natAbs=d at *;have r1:=wm (k:=s+1-d.length) aa1;have hp:=sq d s;have main:∀ D:List UInt8,D.length=max (s+1) d.length→D=Dn d s→(d.length≤s→D=zer (s+1-d.length)++d)→(¬ d.length≤s→D=d)→
    go G7 [.c F8] ⟨[(0,.d (.int .i64 (v))),(1,.d (.int .i64 ((s:Int))))],[]⟩=some (.d (.str (if v<0 then 45::t6 D s else t6 D s)),[]):=by
  intro D hD hpD h1 h2;have e1:((D.length:Int)-(s:Int)).toNat=D.length-s:=aa1;unfold t6;by_cases hc:d.length≤s
  · have h1:=h1 hc
    have d_a:decide ((s:Int)+1-d.length>0)=true:=by simp<;>omega
    have e0:(s:Int)+1-d.length=((s+1-d.length:Nat):Int):=aa1;have e2:(((s+1-d.length:Nat):Int)>0)=True:=by simp;omega
    have d_a':decide ((((s+1-d.length:Nat)):Int)>0)=true:=by simp;omega
    have hz:(zer (s+1-d.length)).length≤20:=by simp[zer];omega
    rcases aa5 (decide ((s:Int)>0)) with d_b|d_b<;>have p_b:=d_b<;>simp only[aa9,aa7,abm,aba,ne_eq] at p_b<;>rcases aa5 (decide (v<0)) with d_g|d_g<;>have p_g:=d_g<;>simp only[aa9,aa7,abm,aba,ne_eq] at p_g
    · rw[if_pos p_g,if_neg aa1]
      simp(disch:=first|exact aa0|fail) only[go_sem,G7,F8,c1,z1,f1,e0,d_a',r1,← h1,e1,d_b,d_g,List.drop_zero,acg]
    · rw[if_neg p_g,if_neg aa1]
      simp(disch:=first|exact aa0|fail) only[go_sem,G7,F8,c1,z1,f1,e0,d_a',r1,← h1,e1,d_b,d_g,List.drop_zero,acg]
    · rw[if_pos p_g,if_pos aa1]
      simp(disch:=first|exact aa0|fail) only[go_sem,G7,F8,c1,z1,f1,e0,d_a',r1,← h1,e1,d_b,d_g,List.drop_zero,acg,List.append_nil]
    · rw[if_neg p_g,if_pos aa1]
      simp(disch:=first|exact aa0|fail) only[go_sem,G7,F8,c1,z1,f1,e0,d_a',r1,← h1,e1,d_b,d_g,List.drop_zero,acg,List.append_nil]
  · have h2:=h2 hc
    subst h2;have d_a:decide ((s:Int)+1-D.length>0)=false:=by simp<;>omega
    rcases aa5 (decide ((s:Int)>0)) with d_b|d_b<;>have p_b:=d_b<;>simp only[aa9,aa7,abm,aba,ne_eq] at p_b<;>rcases aa5 (decide (v<0)) with d_g|d_g<;>have p_g:=d_g<;>simp only[aa9,aa7,abm,aba,ne_eq] at p_g
    · rw[if_pos p_g,if_neg aa1]
      simp(disch:=first|exact aa0|fail) only[go_sem,G7,F8,c1,z1,f1,d_a,e1,d_b,d_g,List.drop_zero,acg]
    · rw[if_neg p_g,if_neg aa1]
      simp(disch:=first|exact aa0|fail) only[go_sem,G7,F8,c1,z1,f1,d_a,e1,d_b,d_g,List.drop_zero,acg]
    · rw[if_pos p_g,if_pos aa1]
      simp(disch:=first|exact aa0|fail) only[go_sem,G7,F8,c1,z1,f1,d_a,e1,d_b,d_g,List.drop_zero,acg,List.append_nil]
    · rw[if_neg p_g,if_pos aa1]
      simp(disch:=first|exact aa0|fail) only[go_sem,G7,F8,c1,z1,f1,d_a,e1,d_b,d_g,List.drop_zero,acg,List.append_nil]
 exact main (Dn d s) hp rfl (fun _=>rfl) (fun h=>an7 d s h)
theorem mb (v:Int) (s:Nat) (hs:s≤18) (K:List Kf):∀ (k:Nat) (d:List UInt8),s+1-d.length=k→d.length≤20→
  go Hk (.c (.loop btz):: .b 0::K) ⟨[(0,.d (.int .i64 (v))),(1,.d (.int .i64 ((s:Int)))),(5,.d (.str (d)))],[]⟩=go Hk K ⟨[(0,.d (.int .i64 (v))),(1,.d (.int .i64 ((s:Int)))),(5,.d (.str (Dn d s))),(12,.d (.bool (false)))],[]⟩
 | 0,d,h,hd=>by
  have d_a:decide ((d.length:Int)≤s)=false:=by simp<;>omega
  rw[go_loop,an7 d s aa1];simp(disch:=first|exact aa0|fail) only[go_sem,Hk,d_a]
 | k+1,d,h,hd=>by
  have d_a:decide ((d.length:Int)≤s)=true:=by simp<;>omega
  have ih:=mb v s hs K k (48::d) (by simp only[List.length_cons];omega) (by simp only[List.length_cons];omega)
  rw[br5 d s aa1] at ih;rw[go_loop];simp(disch:=first|exact aa0|fail) only[go_sem,Hk,d_a]
  exact ih
theorem cx {v:Int} {s:Nat} (hv:inI v) (hs:s≤18):evL cfg H7 0 [.d (.int .i64 (v)),.d (.int .i64 ((s:Int)))] []=some (.d (.str (Al v s)),[]):=by
 rw[o_ba];have z1:=ny hv;have f1:=kx (u:=v.natAbs) (by unfold inI at hv;omega)
 unfold Al HL;have hl:=rc v.natAbs;generalize B2 20 v.natAbs=d at *;have hp:=sq d s;have lp:=fun K=>mb v s hs K _ d rfl hl.2
 generalize Dn d s=D at *;have e1:((D.length:Int)-(s:Int)).toNat=D.length-s:=aa1;unfold t6;rcases aa5 (decide ((s:Int)>0)) with d_b|d_b<;>have p_b:=d_b<;>simp only[aa9,aa7,abm,aba,ne_eq] at p_b<;>rcases aa5 (decide (v<0)) with d_g|d_g<;>have p_g:=d_g<;>simp only[aa9,aa7,abm,aba,ne_eq] at p_g
 · rw[if_pos p_g,if_neg aa1]
   simp(disch:=first|exact aa0|fail) only[go_sem,Hk,SQ,z1,f1,lp,e1,d_b,d_g,List.drop_zero,acg,abv]
 · rw[if_neg p_g,if_neg aa1]
   simp(disch:=first|exact aa0|fail) only[go_sem,Hk,SQ,z1,f1,lp,e1,d_b,d_g,List.drop_zero,acg,abv]
 · have hs0:s=0:=aa1
   subst hs0;rw[show((0:Nat):Int)=0 from rfl] at lp d_b
   rw[if_pos p_g,if_pos rfl];simp(disch:=first|exact aa0|fail) only[go_sem,Hk,SQ,z1,f1,lp,d_b,d_g,Nat.sub_zero,acg,List.append_nil]
 · have hs0:s=0:=aa1
   subst hs0;rw[show((0:Nat):Int)=0 from rfl] at lp d_b
   rw[if_neg p_g,if_pos rfl];simp(disch:=first|exact aa0|fail) only[go_sem,Hk,SQ,z1,f1,lp,d_b,d_g,Nat.sub_zero,acg,List.append_nil]
theorem gm (u:Nat):∀ (n:Int) (tl:List (Nat×V)),u<18446744073709551616→0≤n→n+(C1 u:Int)≤1000→
  go SZ [.c (.loop avv),.b 4,.c (.exit 0),.b 0,.c (.seq apv .ret)] ⟨(3,.d (.int .i64 (n)))::(4,.d (.int .u64 ((u:Int))))::tl,[]⟩=some (.d (.int .i64 (n-1+(C1 u:Int))),[]):=by
 induction u using Nat.strongRecOn with
 | _ u ih=>
  intro n tl hu h0 h1;by_cases c:u<10
  · have d_a:decide ((u:Int)≥10)=false:=by simp<;>omega
    rw[go_loop,bgx c,show n-1+((1:Nat):Int)=n by omega]
    simp(disch:=first|exact aa0|fail) only[go_sem,SZ,Ch,d_a]
  · have d_a:decide ((u:Int)≥10)=true:=by simp<;>omega
    have hst:=fa c aa1;have i2:=ih (u / 10) aa1 (n+1) [] aa1 aa1 aa1;have e1:((u:Int)).tdiv 10=((u / 10:Nat):Int):=by rw[tdp aa1];omega
    rw[show n+1-1+(C1 (u / 10):Int)=n-1+(C1 u:Int) by omega] at i2
    rw[go_loop];simp(disch:=first|exact aa0|fail) only[go_sem,SZ,Ch,d_a,i6,e1]
    exact i2
theorem mw {v:Int} (hv:inI v):evL cfg Tq 0 [.d (.int .i64 (v))] []=some (.d (.int .i64 ((C1 v.natAbs:Int))),[]):=by
 rw[o_bp];have z1:=p9 hv;have hu:v.natAbs<18446744073709551616:=by unfold inI at hv;omega
 generalize v.natAbs=u at *;have e8:∀ u:Nat,((u:Int)).tdiv 100000000=((u / 100000000:Nat):Int):=fun u=>by rw[tdp aa1];omega
 have hd:=bs7 u;by_cases c1:10000000000000000≤u
 · have d_a:decide ((u:Int)≥10000000000000000)=true:=by simp<;>omega
   have h1:=rb (n:=u) aa1 aa1;have h2:=rb (n:=u / 100000000) aa1 aa1;have hl:=gm (u / 100000000 / 100000000) 17 [] aa1 aa1 aa1;rw[show(17:Int)-1+(C1 (u / 100000000 / 100000000):Int)=(C1 u:Int) by omega] at hl
   simp(disch:=first|exact aa0|fail) only[go_sem,SZ,UI,z1,d_a,i6,e8,hl]
 · have d_a:decide ((u:Int)≥10000000000000000)=false:=by simp<;>omega
   by_cases c2:100000000≤u
   · have d_b:decide ((u:Int)≥100000000)=true:=by simp<;>omega
     have h1:=rb (n:=u) aa1 aa1;have hl:=gm (u / 100000000) 9 [] aa1 aa1 aa1;rw[show(9:Int)-1+(C1 (u / 100000000):Int)=(C1 u:Int) by omega] at hl
     simp(disch:=first|exact aa0|fail) only[go_sem,SZ,UI,z1,d_a,d_b,i6,e8,hl]
   · have d_b:decide ((u:Int)≥100000000)=false:=by simp<;>omega
     have hl:=gm u 1 [(10,.d (.bool false))] aa1 aa1 aa1;rw[show(1:Int)-1+(C1 u:Int)=(C1 u:Int) by omega] at hl
     simp(disch:=first|exact aa0|fail) only[go_sem,SZ,UI,z1,d_a,d_b,i6,e8,hl]
theorem ld {v:Int} (hv:inI v):evL cfg TY 0 [.d (.int .i64 (v))] []=some (.d (.int .i64 ((C1 v.natAbs:Int))),[]):=by
 rw[o_dn];have z1:=ny hv;have f1:=kx (u:=v.natAbs) (by unfold inI at hv;omega)
 simp(disch:=first|exact aa0|fail) only[go_sem,X_dn,Z8,z1,f1]
 rfl
theorem bs6 {α:Type} {l:List α} {i:Nat} {c:α} {r:List α} (hr:l.drop i=c::r):i<l.length∧l[i]? =some c∧l.drop (i+1)=r:=by
 have hlt:i<l.length:=by
   apply Classical.byContradiction;intro h;rw[acp aa1] at hr;cases hr
 refine⟨hlt,?_,?_⟩
 · have:=congrArg (·[0]?) hr
   simpa using this
 · rw[← List.drop_drop,hr];rfl
theorem Ui {t:List UInt8} (h:t.length≤5000):evL cfg V2 0 [.d (.str (t)),.d (.str ([48,49,50,51,52,53,54,55,56,57]))] []=some (.d (.str (Lib.trimS t [48,49,50,51,52,53,54,55,56,57])),[]):=by
 rw[qz (g:=HA) rfl];have e:CC [.d (.str (t)),.d (.str ([48,49,50,51,52,53,54,55,56,57]))]=some [.str t,.str [48,49,50,51,52,53,54,55,56,57]]:=rfl;rw[e];simp only[Option.bind_some,HA];have c:t.length≤1000000∧([48,49,50,51,52,53,54,55,56,57]:List UInt8).length≤1000∧dU [48,49,50,51,52,53,54,55,56,57]=true:=⟨by omega,by decide,by decide⟩
 rw[if_pos c];rfl
theorem n6 {t:List UInt8} (h:t.length≤5000):evL cfg Rg 0 [.d (.str (t))] []=some (.d (.bool (dx t)),[]):=by
 rw[o_fg];have ht:=Ui h;have hd:=Uh t;unfold dx;cases t with
 |nil=>simp(disch:=first|exact aa0|fail) only[go_sem,oH,XI,ht,hd,show(([]:List UInt8)==[])=true by rfl]
 |cons c t=>simp(disch:=first|exact aa0|fail) only[go_sem,oH,XI,ht,hd,show((c::t)==[])=false by rfl]
theorem bsn (t:List UInt8):evL cfg V3 0 [.d (.str (t)),.d (.str ([46]))] []=some (.d (.int .i64 (Lib.indexByte t 46)),[]):=by
 rw[qz (g:=s7) rfl];rfl
theorem aol (t:List UInt8) (h:t.length≤5000):evL cfg Tj 0 [.d (.str (t)),.d (.str ([46]))] []=some (.d (.tup [.str (BD t).1,.str (BD t).2.1,.bool (BD t).2.2]),[]):=by
 rw[o_cl];have hi:=bsn t;have hx:=aou t;have hb:=mz t;generalize BD t=q at *;obtain⟨w,p,pt⟩:=q;simp only at *;cases pt
 · simp only[aa8,if_false] at hx hb
   rw[hx] at hi;have hp:=hb.2 trivial;have ht:t=w:=by simpa using hb.1
   subst ht;subst hp;simp(disch:=first|exact aa0|fail) only[go_sem,oL,XM,hi,show decide ((-1:Int)≥0)=false by decide]
 · simp only[if_true] at hx hb
   rw[hx] at hi;have ht:t=w++46::p:=hb.1;have hlen:t.length=w.length+(p.length+1):=by rw[ht];simp
   have d_a:decide ((w.length:Int)≥0)=true:=by simp<;>omega
   have e1:t.take w.length=w:=by rw[ht];simp
   have e2:t.drop (w.length+1)=p:=by rw[ht,← List.drop_drop];simp
   have e3:((w.length:Int)+1).toNat=w.length+1:=aa1;simp(disch:=first|exact aa0|fail) only[go_sem,oL,XM,hi,d_a,abt,show((1:Nat):Int)=1 by rfl,e1,e2,e3,List.drop_zero,acg]
theorem tf (t:List UInt8) (h:t.length≤5000):evL cfg TM 0 [.d (.str (t)),.d (.str ([46]))] []=some (.d (.tup [.str (BD t).1,.str (BD t).2.1,.bool (BD t).2.2]),[]):=by
 rw[o_ff];have h1:=aol t h;simp(disch:=first|exact aa0|fail) only[go_sem,X_ff,Zo,h1]
theorem pq (t:List UInt8) (h:t.length≤5000):evL cfg Th 0 [.d (.str (t)),.d (.str ([45]))] []=some (.d (.bool (decide (t.head? =some 45))),[]):=by
 rw[o_cr];cases t with
 |nil=>simp(disch:=first|exact aa0|fail) only[go_sem,oK,XL,show decide ((0:Int)≥1)=false by decide];rfl
 | cons c t=>
  have d_a:decide (((t.length+1:Nat):Int)≥1)=true:=by simp<;>omega
  have e:(([c]:List UInt8)==[45])=decide ((c::t).head? =some 45):=by
   by_cases hc:c=45
   · subst hc;rfl
   · simp[hc]
  simp(disch:=first|exact aa0|fail) only[go_sem,oK,XL,d_a,show((0+1:Nat):Int)=1 by rfl,show((1:Nat):Int)=1 by rfl,show(1:Int).toNat=1 by rfl,List.take_succ_cons,List.take_zero,List.drop_zero,e]
theorem pr (t:List UInt8) (h:t.length≤5000):evL cfg Tu 0 [.d (.str (t)),.d (.str ([45]))] []=some (.d (.tup [.str (Bp t),.bool (decide (t.head? =some 45))]),[]):=by
 rw[o_b6];have h1:=pq t h;unfold Bp;by_cases c:t.head? =some 45
 · rw[decide_eq_true c] at h1 ⊢
   rw[if_pos c];cases t with
   |nil=>cases c
   | cons x t=>
    simp(disch:=first|exact aa0|fail) only[go_sem,oO,XQ,h1,show((0+1:Nat):Int)=1 by rfl,show((1:Nat):Int)=1 by rfl,show(1:Int).toNat=1 by rfl,acg,List.drop_succ_cons,List.drop_zero,List.tail_cons,List.take_succ_cons]
 · rw[decide_eq_false c] at h1 ⊢
   rw[if_neg c];simp(disch:=first|exact aa0|fail) only[go_sem,oO,XQ,h1]
theorem lw (t:List UInt8) (h:t.length≤5000):evL cfg TX 0 [.d (.str (t)),.d (.str ([45]))] []=some (.d (.tup [.str (Bp t),.bool (decide (t.head? =some 45))]),[]):=by
 rw[o_dq];have h1:=pr t h;simp(disch:=first|exact aa0|fail) only[go_sem,X_dq,Z7,h1]
theorem zo:∀ (l:List UInt8) (neg:Bool) (v:Int),inI v→inI (Br neg v l).1∧(Br neg v l).2≤4
 | [],_,v,h=>⟨h,by simp[Br]⟩
 | c::r,neg,v,h=>by
  unfold Br;split
  · rename_i hq
    refine zo r neg _ ?_;have h2:=hq.2;unfold DW at h2 ⊢;split
    · rename_i hi;exact hi
    · unfold inI;simp
  · exact⟨by unfold inI;simp,by simp⟩
theorem je (neg:Bool) (L:List UInt8) (hL:L.all BB=true) (hlen:L.length≤10000):∀ (r:List UInt8) (i:Nat) (v:Int),L.drop i=r→i≤L.length→inI v→
  go Ei [.c (.loop avz),.b 1,.c (.seq aql .ret)] ⟨[(7,.d (.bool (neg))),(11,.d (.int .i64 (v))),(59,.d (.sl ((L).map AM))),(60,.d (.int .i64 ((L.length:Int)))),(61,.d (.int .i64 ((i:Int))))],[]⟩=some (.d (.tup [.int .i64 (Br neg v r).1,.int .i64 ((Br neg v r).2:Int)]),[])
 | [],i,v,hr,hi,hv=>by
  have:L.length≤i:=by simpa using hr
  have d_a:decide ((i:Int)<L.length)=false:=by simp<;>omega
  rw[go_loop];simp(disch:=first|exact aa0|fail) only[go_sem,Ei,d_a]
  rfl
 | c::r,i,v,hr,hi,hv=>by
  obtain⟨hlt,hc,hr'⟩:=bs6 hr;have hdig:=acd.1 hL c (List.mem_of_getElem? hc);unfold BB at hdig;simp at hdig;have d_a:decide ((i:Int)<L.length)=true:=by simp<;>omega
  have hm:=aod (a:=v) (b:=10) hv (by unfold inI;omega)
  have hmi:inI (mulM v 10).1:=by unfold mulM;split<;>first|assumption| (unfold inI;simp)
  have hsg:inI (sgn neg ((c.toNat:Int)-48)):=by unfold sgn inI;split<;>omega
  have ha:=aoe (a:=(mulM v 10).1) (b:=sgn neg ((c.toNat:Int)-48)) hmi hsg;have hai:inI (DW (mulM v 10).1 (sgn neg ((c.toNat:Int)-48))).1:=by unfold DW;split<;>first|assumption| (unfold inI;simp)
  have w1:=xz (n:=(c.toNat:Int)-48) aa1 aa1;rw[go_loop];unfold Br;by_cases hq:(mulM v 10).2=true∧(DW (mulM v 10).1 (sgn neg ((c.toNat:Int)-48))).2=true
  · rw[if_pos hq]
    have ih:=je neg L hL hlen r (i+1) (DW (mulM v 10).1 (sgn neg ((c.toNat:Int)-48))).1 hr' aa1 hai;rw[show(((i+1:Nat)):Int)=(i:Int)+1 by omega] at ih
    rw[hq.1] at hm;rw[hq.2] at ha;cases neg
    · simp only[sgn,aa8,if_false] at*
      simp(disch:=first|exact aa0|fail) only[go_sem,Ei,d_a,hc,av,w1,hm,ha]
      exact ih
    · simp only[sgn,if_true] at*
      simp(disch:=first|exact aa0|fail) only[go_sem,Ei,d_a,hc,av,w1,hm,ha]
      exact ih
  · rw[if_neg hq]
    by_cases q1:(mulM v 10).2=true
    · have q2:(DW (mulM v 10).1 (sgn neg ((c.toNat:Int)-48))).2=false:=by
        rw[← abh];exact fun e=>hq ⟨q1,e⟩
      rw[q1] at hm;rw[q2] at ha;cases neg
      · simp only[sgn,aa8,if_false] at*
        simp(disch:=first|exact aa0|fail) only[go_sem,Ei,d_a,hc,av,w1,hm,ha]
        rfl
      · simp only[sgn,if_true] at*
        simp(disch:=first|exact aa0|fail) only[go_sem,Ei,d_a,hc,av,w1,hm,ha]
        rfl
    · rw[abh] at q1
      rw[q1] at hm;cases neg
      · simp only[sgn,aa8,if_false] at*
        simp(disch:=first|exact aa0|fail) only[go_sem,Ei,d_a,hc,av,w1,hm,ha]
        rfl
      · simp only[sgn,if_true] at*
        simp(disch:=first|exact aa0|fail) only[go_sem,Ei,d_a,hc,av,w1,hm,ha]
        rfl
theorem zt:∀ t:List UInt8,(BD t).1.length+(BD t).2.1.length≤t.length
 | []=>by simp[BD]
 | c::t=>by
  unfold BD;split
  · simp
  · have:=zt t
    simp only[List.length_cons];omega
theorem bhv (t:List UInt8):(Bp t).length≤t.length:=by
 unfold Bp;split<;>simp
theorem X0 (k:Nat):(zer k).length=k:=by simp[zer]
theorem v6 {t:List UInt8} {s:Nat} (ht:t.length≤4000) (hs:s≤18):evL cfg Tz 0 [.d (.str (t)),.d (.int .i64 ((s:Int)))] []=some (.d (.tup [.int .i64 (az t s).1,.int .i64 ((az t s).2:Int)]),[]):=by
 rw[o_ax];have c1:=W7 hs;have hc:=lw t aa1;have hl1:=bhv t;have hk:=tf (Bp t) aa1;have hl2:=zt (Bp t);unfold az;have hcb:=(mz (Bp t)).2;generalize BD (Bp t)=q at *;obtain⟨w,p,pt⟩:=q;simp only at *;have pw:=n6 (t:=w) aa1;have pp:=n6 (t:=p) aa1;generalize decide (t.head? =some 45)=neg at *;cases hw:dx w
 · rw[hw] at pw
   rw[if_pos (.inl rfl)];simp(disch:=first|exact aa0|fail) only[go_sem,Ei,G4,c1,hc,hk,pw]
   rfl
 · rw[hw] at pw
   by_cases hp:pt=true∧dx p=false
   · rw[if_pos (.inr hp)]
     rw[hp.2] at pp;obtain⟨rfl,_⟩:=hp;simp(disch:=first|exact aa0|fail) only[go_sem,Ei,G4,c1,hc,hk,pw,pp]
     rfl
   · rw[if_neg (by simpa using hp)]
     have tail:go Ei [.c G4] ⟨[(0,.d (.str (t))),(1,.d (.int .i64 ((s:Int))))],[]⟩=some (.d (.tup [.int .i64 (if s<p.length then((0:Int),4) else Br neg 0 (w++p++zer (s-p.length))).1,.int .i64 (((if s<p.length then((0:Int),4) else Br neg 0 (w++p++zer (s-p.length))).2:Nat):Int)]),[]):=by
      by_cases hlt:s<p.length
      · have d_a:decide ((p.length:Int)>s)=true:=by simp<;>omega
        rw[if_pos hlt];cases pt
        · simp(disch:=first|exact aa0|fail) only[go_sem,Ei,G4,c1,hc,hk,pw,d_a]
          rfl
        · have hp':dx p=true:=by
            rw[← abf];exact fun e=>hp ⟨rfl,e⟩
          rw[hp'] at pp;simp(disch:=first|exact aa0|fail) only[go_sem,Ei,G4,c1,hc,hk,pw,pp,d_a]
          rfl
      · have d_a:decide ((p.length:Int)>s)=false:=by simp<;>omega
        rw[if_neg hlt];have r1:=wm (k:=s-p.length) aa1;have e1:(s:Int)-p.length=((s-p.length:Nat):Int):=aa1;have hz:=X0 (s-p.length);cases pt
        · have hdw:w.all BB=true:=by unfold dx at hw;simp only[abe] at hw;exact hw.2
          by_cases hp0:p=[]
          · have hall:(w++p++zer (s-p.length)).all BB=true:=by rw[List.all_append,List.all_append,hdw,hp0,u7];rfl
            have hl:=je neg (w++p++zer (s-p.length)) hall (by rw[abk,abk];omega) _ 0 0 rfl aa1 (by unfold inI;omega)
            rw[List.drop_zero,show((0:Nat):Int)=0 from rfl,abk,abk] at hl
            simp(disch:=first|exact aa0|fail) only[go_sem,Ei,G4,c1,hc,hk,pw,d_a,e1,r1,abl]
            exact hl
          · exact absurd (hcb rfl) hp0
        · have hp':dx p=true:=by
            rw[← abf];exact fun e=>hp ⟨rfl,e⟩
          rw[hp'] at pp;have hdw:w.all BB=true:=by unfold dx at hw;simp only[abe] at hw;exact hw.2
          have hdp:p.all BB=true:=by unfold dx at hp';simp only[abe] at hp';exact hp'.2
          have hall:(w++p++zer (s-p.length)).all BB=true:=by rw[List.all_append,List.all_append,hdw,hdp,u7];rfl
          have hl:=je neg (w++p++zer (s-p.length)) hall (by rw[abk,abk];omega) _ 0 0 rfl aa1 (by unfold inI;omega)
          rw[List.drop_zero,show((0:Nat):Int)=0 from rfl,abk,abk] at hl
          simp(disch:=first|exact aa0|fail) only[go_sem,Ei,G4,c1,hc,hk,pw,pp,d_a,e1,r1,abl]
          exact hl
     exact tail
