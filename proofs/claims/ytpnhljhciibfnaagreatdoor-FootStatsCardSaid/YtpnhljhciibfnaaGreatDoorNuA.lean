import Derived.Test.YtpnhljhciibfnaaGreatDoorExt
import Derived.Test.YtpnhljhciibfnaaGreatDoorL10
import Derived.Test.YtpnhljhciibfnaaGreatDoorL8
namespace Go.Proofs.YtpnhljhciibfnaaGreatDoor
open Go.Ev Go
set_option maxRecDepth 100000
set_option maxHeartbeats 4000000
def kb0:List UInt8:=[8,3,16,7,26,10,8,3,16,0,24,0,32,0,40,1,34,8,8,12,18,1,1,26,1,97,34,2,8,3,42,6,10,1,107,18,1,118,48,1,58,4,8,1,80,0,58,12,8,1,18,6,8,10,16,10,24,10,80,0,64,10]
theorem Y2:evL cfg HR 0 [.d (.agg [.int .i64 12,.sl [.str [97]],.sl [.agg [.int .i64 3,.sl [],.sl [],.int .i64 0,.int .i64 0,.int .i64 0]],.int .i64 0,.int .i64 0,.int .i64 0])] []=some (.d (.sl [.agg [.int .i64 12,.sl [.int .i64 1],.sl [.str [97]],.int .i64 0,.int .i64 0,.int .i64 0,.int .i64 (-1),.int .i64 1],.agg [.int .i64 3,.sl [],.sl [],.int .i64 0,.int .i64 0,.int .i64 0,.int .i64 0,.int .i64 2]]),[]):=ec (n:=100) aa2
theorem Y1:evL cfg fV 0 [.d (.agg [.int .i64 7,.sl [.agg [.int .i64 3,.int .i64 0,.int .i64 0,.int .i64 0,.int .i64 1]],.int .i64 12,.sl [.str [97]],.sl [.agg [.int .i64 3,.sl [],.sl [],.int .i64 0,.int .i64 0,.int .i64 0]],.int .i64 0,.int .i64 0,.int .i64 0,.sl [.agg [.str [107],.sl [.int .u8 118]]],.int .i64 1,.sl [.agg [.int .i64 1,.bool false,.bool false,.bool false,.int .i64 0,.int .i64 0,.sl [],.sl [],.bool false,.int .i64 0,.int .i64 0,.sl [],.sl [],.bool false,.int .i64 0],.agg [.int .i64 1,.bool false,.bool true,.bool false,.int .i64 5,.int .i64 0,.sl [],.sl [],.bool false,.int .i64 5,.int .i64 0,.sl [],.sl [],.bool true,.int .i64 5]],.int .i64 10])] []=some (.d (.tup [.sl (kb0.map AM),.int .i64 0]),[]):=ec (n:=100) aa2
set_option maxRecDepth 100000
theorem Y0:evL cfg fW 0 [.d (.sl (kb0.map AM))] []=some (.d (.tup [.agg [.int .i64 7,.sl [.agg [.int .i64 3,.int .i64 0,.int .i64 0,.int .i64 0,.int .i64 1]],.int .i64 12,.sl [.str [97]],.sl [.agg [.int .i64 3,.sl [],.sl [],.int .i64 0,.int .i64 0,.int .i64 0]],.int .i64 0,.int .i64 0,.int .i64 0,.sl [.agg [.str [107],.sl [.int .u8 118]]],.int .i64 1,.sl [.agg [.int .i64 1,.bool false,.bool false,.bool false,.int .i64 0,.int .i64 0,.sl [],.sl [],.bool false,.int .i64 0,.int .i64 0,.sl [],.sl [],.bool false,.int .i64 0],.agg [.int .i64 1,.bool false,.bool true,.bool false,.int .i64 5,.int .i64 0,.sl [],.sl [],.bool false,.int .i64 5,.int .i64 0,.sl [],.sl [],.bool true,.int .i64 5]],.int .i64 10],.int .i64 0]),[]):=ec (n:=100) aa2
set_option maxRecDepth 100000
def memo:Hn:=[(HR,[.agg [.int .i64 12,.sl [.str [97]],.sl [.agg [.int .i64 3,.sl [],.sl [],.int .i64 0,.int .i64 0,.int .i64 0]],.int .i64 0,.int .i64 0,.int .i64 0]],.d (.sl [.agg [.int .i64 12,.sl [.int .i64 1],.sl [.str [97]],.int .i64 0,.int .i64 0,.int .i64 0,.int .i64 (-1),.int .i64 1],.agg [.int .i64 3,.sl [],.sl [],.int .i64 0,.int .i64 0,.int .i64 0,.int .i64 0,.int .i64 2]])),
 (fV,[.agg [.int .i64 7,.sl [.agg [.int .i64 3,.int .i64 0,.int .i64 0,.int .i64 0,.int .i64 1]],.int .i64 12,.sl [.str [97]],.sl [.agg [.int .i64 3,.sl [],.sl [],.int .i64 0,.int .i64 0,.int .i64 0]],.int .i64 0,.int .i64 0,.int .i64 0,.sl [.agg [.str [107],.sl [.int .u8 118]]],.int .i64 1,.sl [.agg [.int .i64 1,.bool false,.bool false,.bool false,.int .i64 0,.int .i64 0,.sl [],.sl [],.bool false,.int .i64 0,.int .i64 0,.sl [],.sl [],.bool false,.int .i64 0],.agg [.int .i64 1,.bool false,.bool true,.bool false,.int .i64 5,.int .i64 0,.sl [],.sl [],.bool false,.int .i64 5,.int .i64 0,.sl [],.sl [],.bool true,.int .i64 5]],.int .i64 10]],.d (.tup [.sl (kb0.map AM),.int .i64 0])),
 (fW,[.sl (kb0.map AM)],.d (.tup [.agg [.int .i64 7,.sl [.agg [.int .i64 3,.int .i64 0,.int .i64 0,.int .i64 0,.int .i64 1]],.int .i64 12,.sl [.str [97]],.sl [.agg [.int .i64 3,.sl [],.sl [],.int .i64 0,.int .i64 0,.int .i64 0]],.int .i64 0,.int .i64 0,.int .i64 0,.sl [.agg [.str [107],.sl [.int .u8 118]]],.int .i64 1,.sl [.agg [.int .i64 1,.bool false,.bool false,.bool false,.int .i64 0,.int .i64 0,.sl [],.sl [],.bool false,.int .i64 0,.int .i64 0,.sl [],.sl [],.bool false,.int .i64 0],.agg [.int .i64 1,.bool false,.bool true,.bool false,.int .i64 5,.int .i64 0,.sl [],.sl [],.bool false,.int .i64 5,.int .i64 0,.sl [],.sl [],.bool true,.int .i64 5]],.int .i64 10],.int .i64 0]))]
theorem Yo:Cq cfg memo:=Cq.cons Y2 (Cq.cons Y1 (Cq.cons Y0 (Cq.nil)))
theorem py:evL cfg Ym 0 [] []=some (.d (.bool (true)),[]):=avr Yo (n:=100) aa2
set_option maxHeartbeats 2000000
theorem aob {v:Int} (h:inI v):evL cfg TH 0 [.d (.int .i64 (v))] []=some (.d (.int .u64 ((As v:Int))),[]):=by
 rw[o_fu];simp(disch:=first|exact aa0|fail) only[go_sem,X_fu,Zi,f7,bg,US h]
theorem rt {v:Int} (h:inI v):evL cfg TZ 0 [.d (.int .i64 (v))] []=some (.d (.int .u64 ((As v:Int))),[]):=by
 rw[o_dl];have h':=h;unfold inI at h;rcases aa5 (decide (v<0)) with d_a|d_a<;>have p_a:=d_a<;>simp only[aa9,aa7,abm,aba,ne_eq] at p_a
 · have e:=bg4 h.1 p_a
   simp(disch:=first|exact aa0|fail) only[go_sem,oI,XJ,d_a,f7,show 0-(v+1)= -v-1 by omega,e]
 · have e:(As v:Int)=2*v:=by unfold As;split<;>omega
   have e2:=YR aa1 h.2;simp(disch:=first|exact aa0|fail) only[go_sem,oI,XJ,d_a,f7,e,e2]
theorem aoc {u:Nat} (h:u<18446744073709551616):evL cfg TJ 0 [.d (.int .u64 ((u:Int)))] []=some (.d (.int .i64 (CG u)),[]):=by
 rw[o_ft];simp(disch:=first|exact aa0|fail) only[go_sem,X_ft,Zj,f7,bg,UT h]
theorem aav {u:Nat} (h:u<18446744073709551616):evL cfg Te 0 [.d (.int .u64 ((u:Int)))] []=some (.d (.int .i64 (CG u)),[]):=by
 rw[o_db];have e1:=bht u;have e2:=Go.Ev.and_one u h;by_cases c:u % 2=1
 · have e3:(((u % 2:Nat):Int)==1)=true:=by simp;omega
   have e4:CG u=0-((u / 2:Nat):Int)-1:=by unfold CG;rw[if_pos c];omega
   simp(disch:=first|exact aa0|fail) only[go_sem,oJ,XK,bg,e1,e2,e3,e4]
 · have e3:(((u % 2:Nat):Int)==1)=false:=by simp;omega
   have e4:CG u=((u / 2:Nat):Int):=by unfold CG;rw[if_neg c]
   simp(disch:=first|exact aa0|fail) only[go_sem,oJ,XK,bg,e1,e2,e3,e4]
theorem jg (b:List UInt8) (hl:b.length≤1000000):evL cfg HV 0 [.d (.sl ((b).map AM))] []=some ((if b.isEmpty then .d .AB else .own false 1 (b.map AM)),[]):=by
 cases b with
 |nil=>exact ec (n:=3) aa2
 | cons c b=>
  rw[o_bz];rw[List.length_cons] at hl;simp(disch:=first|exact aa0|fail) only[go_sem,X_bz,aO,List.isEmpty]
theorem gj:∀ (k u:Nat) (es:List UInt8),u<128 ^ (k+1)→u<18446744073709551616→es.length+k+1≤10000000→
  go Ii [.c (.loop bts),.b 0,.c (.seq bh8 .ret)] ⟨[(1,.d (.int .u64 ((u:Int)))),(5,.own false 1 (es.map AM))],[]⟩=some (.own false 1 ((es++Ai (k+1) u).map AM),[])
 | k,u,es,h,h',hl=>by
  by_cases c:u<128
  · have d_a:decide ((u:Int)≥128)=false:=by simp<;>omega
    have e:Ai (k+1) u=[UInt8.ofNat u]:=by simp[Ai,c]
    have e1:=fu (n:=u) aa1;have e2:u % 256=u:=aa1;rw[go_loop,e];simp(disch:=first|exact aa0|fail) only[go_sem,Ii,d_a,Gf,List.map_append,e1,e2]
  · have d_a:decide ((u:Int)≥128)=true:=by simp<;>omega
    cases k with
    |zero=>simp at h;omega
    | succ k=>
     have e:Ai (k+1+1) u=UInt8.ofNat (u % 128+128)::Ai (k+1) (u / 128):=by rw[Ai,if_neg c]
     have e1:=fu (n:=u % 128+128) aa1;have ih:=gj k (u / 128) (es++[UInt8.ofNat (u % 128+128)]) (by rw[Nat.pow_succ] at h;omega) aa1 (by simp;omega)
     rw[List.map_append,List.map_cons,List.map_nil,e1,abv,List.singleton_append,← e] at ih;rw[go_loop];simp(disch:=first|exact aa0|fail) only[go_sem,Ii,d_a,Gf,bg,o7,br1]
     exact ih
theorem eu {b:List UInt8} {u:Nat} (hb:b.length≤1000000) (hu:u<18446744073709551616):evL cfg HT 0 [.d (.sl ((b).map AM)),.d (.int .u64 ((u:Int)))] []=some (.own false 1 ((b++Ai 10 u).map AM),[]):=by
 rw[o_co];have hc:=jg b hb;cases b with
 | cons x b=>
  have hl:=gj 9 u (x::b) aa1 hu (by simp at hb ⊢;omega)
  simp only[List.isEmpty_cons,aa8,if_false] at hc;rw[List.map_cons] at hc hl ⊢;simp(disch:=first|exact aa0|fail) only[go_sem,Ii,UG,hc,hl]
 | nil=>
  simp only[List.isEmpty_nil,if_true] at hc;rw[List.map_nil] at hc;by_cases c:u<128
  · have d_a:decide ((u:Int)≥128)=false:=by simp<;>omega
    have e:Ai 10 u=[UInt8.ofNat u]:=by simp[Ai,c]
    have e1:=fu (n:=u) aa1;have e2:u % 256=u:=aa1;simp(disch:=first|exact aa0|fail) only[go_sem,Ii,UG,hc,go_loop,d_a,Gf,e,e1,e2]
  · have d_a:decide ((u:Int)≥128)=true:=by simp<;>omega
    have e:Ai 10 u=UInt8.ofNat (u % 128+128)::Ai 9 (u / 128):=by rw[Ai,if_neg c]
    have e1:=fu (n:=u % 128+128) aa1;have ih:=gj 8 (u / 128) [UInt8.ofNat (u % 128+128)] aa1 aa1 aa3;rw[List.map_cons,List.map_nil,e1,List.singleton_append,← e] at ih;simp(disch:=first|exact aa0|fail) only[go_sem,Ii,UG,hc]
    rw[go_loop];simp(disch:=first|exact aa0|fail) only[go_sem,Ii,d_a,Gf,bg,o7,br1]
    exact ih
theorem gd:∀ (k u:Nat) (es:List UInt8),u<128 ^ (k+1)→u<18446744073709551616→es.length+k+1≤10000000→
  go Hj [.c (.loop btu),.b 0,.c (.seq biu .ret)] ⟨[(0,.own false 1 (es.map AM)),(1,.d (.int .u64 ((u:Int))))],[]⟩=some (.own false 1 ((es++Ai (k+1) u).map AM),[])
 | k,u,es,h,h',hl=>by
  by_cases c:u<128
  · have d_a:decide ((u:Int)≥128)=false:=by simp<;>omega
    have e:Ai (k+1) u=[UInt8.ofNat u]:=by simp[Ai,c]
    have e1:=fu (n:=u) aa1;have e2:u % 256=u:=aa1;rw[go_loop,e];simp(disch:=first|exact aa0|fail) only[go_sem,Hj,d_a,Gf,List.map_append,e1,e2]
  · have d_a:decide ((u:Int)≥128)=true:=by simp<;>omega
    cases k with
    |zero=>simp at h;omega
    | succ k=>
     have e:Ai (k+1+1) u=UInt8.ofNat (u % 128+128)::Ai (k+1) (u / 128):=by rw[Ai,if_neg c]
     have e1:=fu (n:=u % 128+128) aa1;have ih:=gd k (u / 128) (es++[UInt8.ofNat (u % 128+128)]) (by rw[Nat.pow_succ] at h;omega) aa1 (by simp;omega)
     rw[List.map_append,List.map_cons,List.map_nil,e1,abv,List.singleton_append,← e] at ih;have e3:=br0 h';rw[go_loop];simp(disch:=first|exact aa0|fail) only[go_sem,Hj,d_a,e3,bg,o7]
     exact ih
theorem co {b:List UInt8} {u:Nat} (hb:b.length≤1000000) (hu:u<18446744073709551616):evL cfg GW 0 [.own false 1 (b.map AM),.d (.int .u64 ((u:Int)))] []=some (.own false 1 ((b++Ai 10 u).map AM),[]):=by
 rw[show evL cfg GW 0 [.own false 1 (b.map AM),.d (.int .u64 ((u:Int)))] []=go Hj [.c SP] ⟨[(0,.own false 1 (b.map AM)),(1,.d (.int .u64 ((u:Int))))],[]⟩ from ab (fn:=Y7) rfl rfl _ _ _ rfl rfl]
 have hl:=gd 9 u b aa1 hu aa1;simp(disch:=first|exact aa0|fail) only[go_sem,Hj,SP,hl]
theorem em {u:Nat} (hu:u<18446744073709551616):evL cfg GW 0 [.d .AB,.d (.int .u64 ((u:Int)))] []=some (.own false 1 ((Ai 10 u).map AM),[]):=by
 rw[o_bv];by_cases c:u<128
 · have d_a:decide ((u:Int)≥128)=false:=by simp<;>omega
   have e:Ai 10 u=[UInt8.ofNat u]:=by simp[Ai,c]
   have e1:=fu (n:=u) aa1;have e2:u % 256=u:=aa1;simp(disch:=first|exact aa0|fail) only[go_sem,Hj,SP,go_loop,d_a,Gf,e,e1,e2]
 · have d_a:decide ((u:Int)≥128)=true:=by simp<;>omega
   have e:Ai 10 u=UInt8.ofNat (u % 128+128)::Ai 9 (u / 128):=by rw[Ai,if_neg c]
   have e1:=fu (n:=u % 128+128) aa1;have ih:=gd 8 (u / 128) [UInt8.ofNat (u % 128+128)] aa1 aa1 aa3;rw[List.map_cons,List.map_nil,e1,List.singleton_append,← e] at ih;have e3:=br0 hu;simp(disch:=first|exact aa0|fail) only[go_sem,Hj,SP]
   rw[go_loop];simp(disch:=first|exact aa0|fail) only[go_sem,Hj,d_a,e3,bg,o7]
   exact ih
def DX (m:Nat×Nat×Nat):V:= .d (.tup [.int .u64 (m.1:Int),.int .i64 (m.2.1:Int),.int .i64 (m.2.2:Int)])
theorem pm:∀ (r:List UInt8) (l:List UInt8) (i v:Nat),l.drop i=r→i≤9→v<128 ^ i→l.length≤1000000000→i≤l.length→
  go Ij [.c (.loop avu),.b 0,.c (.seq aps .ret)] ⟨[(4,.d (.int .u64 ((v:Int)))),(19,.d (.sl ((l).map AM))),(20,.d (.int .i64 ((l.length:Int)))),(21,.d (.int .i64 ((i:Int))))],[]⟩=some (DX (Ay i v r),[])
 | [],l,i,v,hr,hi,hv,hl,hil=>by
  have:l.length≤i:=by simpa using hr
  have d_a:decide ((i:Int)<l.length)=false:=by simp<;>omega
  rw[go_loop];simp(disch:=first|exact aa0|fail) only[go_sem,Ij,d_a]
  rfl
 | c::r,l,i,v,hr,hi,hv,hl,hil=>by
  have hlt:i<l.length:=by
    apply Classical.byContradiction;intro h;rw[acp aa1] at hr;cases hr
  have hc:l[i]? =some c:=by
    have:=congrArg (·[0]?) hr
    simpa using this
  have hr':l.drop (i+1)=r:=by rw[← List.drop_drop,hr];rfl
  have h256:=E1 c;have d_a:decide ((i:Int)<l.length)=true:=by simp<;>omega
  rw[go_loop];unfold Ay;have ea:=bfs c;by_cases h9:i=9
  · have d9:((i:Int)==9)=true:=by simp;omega
    by_cases h1:1<c.toNat
    · have d_b:decide ((c.toNat:Int)>1)=true:=by simp<;>omega
      rw[if_pos ⟨h9,h1⟩];simp(disch:=first|exact aa0|fail) only[go_sem,Ij,d_a,hc,av,d9,d_b]
      rfl
    · have d_b:decide ((c.toNat:Int)>1)=false:=by simp<;>omega
      have d_d:decide ((c.toNat:Int)<128)=true:=by simp<;>omega
      have eb:=sj (v:=v) (x:=c.toNat % 128) (i:=i) hv (.inr ⟨h9,by omega⟩)
      rw[if_neg aa1,if_pos aa1];rw[show c.toNat % 128=c.toNat by omega] at ea eb
      simp(disch:=first|exact aa0|fail) only[go_sem,Ij,d_a,hc,av,d9,d_b,d_d,ea,f7,eb,vc,show c.toNat % 18446744073709551616=c.toNat by omega]
      unfold DX
      first|done|with_reducible rfl| (simp only[Option.some.injEq,Prod.mk.injEq,V.d.injEq,D.int.injEq,D.tup.injEq,D.bool.injEq,List.cons.injEq,and_true,true_and];omega)
  · have eb:=sj (v:=v) (x:=c.toNat % 128) (i:=i) hv (.inl ⟨by omega,by omega⟩)
    have d9:((i:Int)==9)=false:=by simp;omega
    rw[if_neg aa1];by_cases h2:c.toNat<128
    · have d_d:decide ((c.toNat:Int)<128)=true:=by simp<;>omega
      rw[if_pos h2];rw[show c.toNat % 128=c.toNat by omega] at ea eb
      simp(disch:=first|exact aa0|fail) only[go_sem,Ij,d_a,hc,av,d9,d_d,ea,f7,eb,vc,show c.toNat % 18446744073709551616=c.toNat by omega]
      unfold DX
      first|done|with_reducible rfl| (simp only[Option.some.injEq,Prod.mk.injEq,V.d.injEq,D.int.injEq,D.tup.injEq,D.bool.injEq,List.cons.injEq,and_true,true_and];omega)
    · have d_d:decide ((c.toNat:Int)<128)=false:=by simp<;>omega
      rw[if_neg h2];have hp:v+(c.toNat-128)*128 ^ i<128 ^ (i+1):=by
       have:(c.toNat-128)*128 ^ i≤127*128 ^ i:=aby _ aa1;rw[Nat.pow_succ];omega
      have ih:=pm r l (i+1) (v+(c.toNat-128)*128 ^ i) hr' aa1 hp hl aa1;rw[show(((i+1:Nat)):Int)=(i:Int)+1 by omega,← show c.toNat % 128=c.toNat-128 by omega] at ih
      rw[← show c.toNat % 128=c.toNat-128 by omega]
      simp(disch:=first|exact aa0|fail) only[go_sem,Ij,d_a,hc,av,d9,d_d,ea,f7,eb,vc,show c.toNat % 128 % 18446744073709551616=c.toNat % 128 by omega]
      exact ih
theorem pf:∀ (r:List UInt8) (l:List UInt8) (k i v:Nat),l.drop (k+i)=r→i≤9→v<128 ^ i→l.length≤1000000000→k+i≤l.length→
  go Im [.c (.loop avy),.b 0,.c (.seq bkw .ret)] ⟨[(0,.d (.sl ((l).map AM))),(1,.d (.int .i64 ((k:Int)))),(7,.d (.int .u64 ((v:Int)))),(8,.d (.int .i64 ((i:Int))))],[]⟩=some (DX (Ay i v r),[])
 | [],l,k,i,v,hr,hi,hv,hl,hil=>by
  have:l.length≤k+i:=by simpa using hr
  have d_a:decide ((i:Int)<10)=true:=by simp<;>omega
  have d2:((k:Int)+i==l.length)=true:=by simp;omega
  rw[go_loop];simp(disch:=first|exact aa0|fail) only[go_sem,Im,d_a,d2]
  rfl
 | c::r,l,k,i,v,hr,hi,hv,hl,hil=>by
  have hlt:k+i<l.length:=by
    apply Classical.byContradiction;intro h;rw[acp aa1] at hr;cases hr
  have hc:l[((k:Int)+i).toNat]? =some c:=by
    have:=congrArg (·[0]?) hr
    rw[show((k:Int)+i).toNat=k+i by omega]
    simpa using this
  have hr':l.drop (k+(i+1))=r:=by rw[← acy,← List.drop_drop,hr];rfl
  have h256:=E1 c;have d_a:decide ((i:Int)<10)=true:=by simp<;>omega
  have d2:((k:Int)+i==l.length)=false:=by simp;omega
  rw[go_loop];unfold Ay;have ea:=X2 c;by_cases h9:i=9
  · have d9:((i:Int)==9)=true:=by simp;omega
    by_cases h1:1<c.toNat
    · have d_b:decide ((c.toNat:Int)>1)=true:=by simp<;>omega
      rw[if_pos ⟨h9,h1⟩];simp(disch:=first|exact aa0|fail) only[go_sem,Im,d_a,d2,aq,hc,av,d9,d_b]
      rfl
    · have d_b:decide ((c.toNat:Int)>1)=false:=by simp<;>omega
      have d_d:decide ((c.toNat:Int)<128)=true:=by simp<;>omega
      have eb:=sj (v:=v) (x:=c.toNat % 128) (i:=i) hv (.inr ⟨h9,by omega⟩)
      rw[if_neg aa1,if_pos aa1];rw[show c.toNat % 128=c.toNat by omega] at ea eb
      simp(disch:=first|exact aa0|fail) only[go_sem,Im,d_a,d2,aq,hc,av,d9,d_b,d_d,ea,f7,eb,vc,show i % 18446744073709551616=i by omega,show c.toNat % 18446744073709551616=c.toNat by omega]
      unfold DX
      first|done|with_reducible rfl| (simp only[Option.some.injEq,Prod.mk.injEq,V.d.injEq,D.int.injEq,D.tup.injEq,D.bool.injEq,List.cons.injEq,and_true,true_and];omega)
  · have eb:=sj (v:=v) (x:=c.toNat % 128) (i:=i) hv (.inl ⟨by omega,by omega⟩)
    have d9:((i:Int)==9)=false:=by simp;omega
    rw[if_neg aa1];by_cases h2:c.toNat<128
    · have d_d:decide ((c.toNat:Int)<128)=true:=by simp<;>omega
      rw[if_pos h2];rw[show c.toNat % 128=c.toNat by omega] at ea eb
      simp(disch:=first|exact aa0|fail) only[go_sem,Im,d_a,d2,aq,hc,av,d9,d_d,ea,f7,eb,vc,show i % 18446744073709551616=i by omega,show c.toNat % 18446744073709551616=c.toNat by omega]
      unfold DX
      first|done|with_reducible rfl| (simp only[Option.some.injEq,Prod.mk.injEq,V.d.injEq,D.int.injEq,D.tup.injEq,D.bool.injEq,List.cons.injEq,and_true,true_and];omega)
    · have d_d:decide ((c.toNat:Int)<128)=false:=by simp<;>omega
      rw[if_neg h2];have hp:v+(c.toNat-128)*128 ^ i<128 ^ (i+1):=by
       have:(c.toNat-128)*128 ^ i≤127*128 ^ i:=aby _ aa1;rw[Nat.pow_succ];omega
      have ih:=pf r l k (i+1) (v+(c.toNat-128)*128 ^ i) hr' aa1 hp hl aa1;rw[show(((i+1:Nat)):Int)=(i:Int)+1 by omega,← show c.toNat % 128=c.toNat-128 by omega] at ih
      rw[← show c.toNat % 128=c.toNat-128 by omega]
      simp(disch:=first|exact aa0|fail) only[go_sem,Im,d_a,d2,aq,hc,av,d9,d_d,ea,f7,eb,vc,show i % 18446744073709551616=i by omega,show c.toNat % 128 % 18446744073709551616=c.toNat % 128 by omega]
      exact ih
