import Derived.Test.YtlcnfnjdelmkdaaGreatDoorCode
import Derived.Test.YtlcnfnjdelmkdaaGreatDoorL8
namespace Go.Proofs.YtlcnfnjdelmkdaaGreatDoor
open Go.Ev Go
set_option maxRecDepth 100000 in
theorem known_n:evFn cfg 100 n_fu 0 [] []=some (.d (.bool true),[]):=y9
theorem oz:evL cfg n_fu 0 [] []=some (.d (.bool true),[]):=en known_n
set_option maxHeartbeats 2000000
theorem amv {u:Nat} (h:u<18446744073709551616):evL cfg n_e9 0 [.d (.int .u64 ((u:Int)))] []=some (.d (.int .i64 (zagI u)),[]):=by
 rw[o_e9];simp(disch:=first|exact y7|fail) only[go_sem,X_e9,c_e9,iw,bb,zag_bits h]
theorem yw {u:Nat} (h:u<18446744073709551616):evL cfg n_cw 0 [.d (.int .u64 ((u:Int)))] []=some (.d (.int .i64 (zagI u)),[]):=by
 rw[o_cw];have e1:=bhp u;have e2:=Go.Ev.and_one u h;by_cases c:u % 2=1
 · have e3:(((u % 2:Nat):Int)==1)=true:=by simp;omega
   have e4:zagI u=0-((u / 2:Nat):Int)-1:=by unfold zagI;rw[if_pos c];omega
   simp(disch:=first|exact y7|fail) only[go_sem,X_cw,c_cw,bb,e1,e2,e3,e4]
 · have e3:(((u % 2:Nat):Int)==1)=false:=by simp;omega
   have e4:zagI u=((u / 2:Nat):Int):=by unfold zagI;rw[if_neg c]
   simp(disch:=first|exact y7|fail) only[go_sem,X_cw,c_cw,bb,e1,e2,e3,e4]
theorem dv (b:List UInt8) (hl:b.length≤1000000):evL cfg n_bx 0 [.d (.sl ((b).map byteD))] []=some ((if b.isEmpty then .d .nilS else .own false 1 (b.map byteD)),[]):=by
 cases b with
 |nil=>exact en (n:=3) y9
 | cons c b=>
  rw[o_bx];rw[List.length_cons] at hl;simp(disch:=first|exact y7|fail) only[go_sem,X_bx,c_bx,List.isEmpty]
theorem fj:∀ (k u:Nat) (es:List UInt8),u<128 ^ (k+1)→u<18446744073709551616→es.length+k+1≤10000000→
  go X_cm [.c (.loop btr),.b 0,.c (.seq bib .ret)] ⟨[(1,.d (.int .u64 ((u:Int)))),(5,.own false 1 (es.map byteD))],[]⟩=some (.own false 1 ((es++varB (k+1) u).map byteD),[])
 | k,u,es,h,h',hl=>by
  by_cases c:u<128
  · have d_a:decide ((u:Int)≥128)=false:=by simp<;>omega
    have e:varB (k+1) u=[UInt8.ofNat u]:=by simp[varB,c]
    have e1:=ga (n:=u) y8;have e2:u % 256=u:=y8;rw[go_loop,e];simp(disch:=first|exact y7|fail) only[go_sem,X_cm,d_a,cv_u8,List.map_append,e1,e2]
  · have d_a:decide ((u:Int)≥128)=true:=by simp<;>omega
    cases k with
    |zero=>simp at h;omega
    | succ k=>
     have e:varB (k+1+1) u=UInt8.ofNat (u % 128+128)::varB (k+1) (u / 128):=by rw[varB,if_neg c]
     have e1:=ga (n:=u % 128+128) y8;have ih:=fj k (u / 128) (es++[UInt8.ofNat (u % 128+128)]) (by rw[Nat.pow_succ] at h;omega) y8 (by simp;omega)
     rw[List.map_append,List.map_cons,List.map_nil,e1,aad,List.singleton_append,← e] at ih;rw[go_loop];simp(disch:=first|exact y7|fail) only[go_sem,X_cm,d_a,cv_u8,bb,nv,brz]
     exact ih
theorem gx {b:List UInt8} {u:Nat} (hb:b.length≤1000000) (hu:u<18446744073709551616):evL cfg n_cm 0 [.d (.sl ((b).map byteD)),.d (.int .u64 ((u:Int)))] []=some (.own false 1 ((b++varB 10 u).map byteD),[]):=by
 rw[o_cm];have hc:=dv b hb;cases b with
 | cons x b=>
  have hl:=fj 9 u (x::b) y8 hu (by simp at hb ⊢;omega)
  simp only[List.isEmpty_cons,zh,if_false] at hc;rw[List.map_cons] at hc hl ⊢;simp(disch:=first|exact y7|fail) only[go_sem,X_cm,c_cm,hc,hl]
 | nil=>
  simp only[List.isEmpty_nil,if_true] at hc;rw[List.map_nil] at hc;by_cases c:u<128
  · have d_a:decide ((u:Int)≥128)=false:=by simp<;>omega
    have e:varB 10 u=[UInt8.ofNat u]:=by simp[varB,c]
    have e1:=ga (n:=u) y8;have e2:u % 256=u:=y8;simp(disch:=first|exact y7|fail) only[go_sem,X_cm,c_cm,hc,go_loop,d_a,cv_u8,e,e1,e2]
  · have d_a:decide ((u:Int)≥128)=true:=by simp<;>omega
    have e:varB 10 u=UInt8.ofNat (u % 128+128)::varB 9 (u / 128):=by rw[varB,if_neg c]
    have e1:=ga (n:=u % 128+128) y8;have ih:=fj 8 (u / 128) [UInt8.ofNat (u % 128+128)] y8 y8 zb;rw[List.map_cons,List.map_nil,e1,List.singleton_append,← e] at ih;simp(disch:=first|exact y7|fail) only[go_sem,X_cm,c_cm,hc]
    rw[go_loop];simp(disch:=first|exact y7|fail) only[go_sem,X_cm,d_a,cv_u8,bb,nv,brz]
    exact ih
theorem fg:∀ (k u:Nat) (es:List UInt8),u<128 ^ (k+1)→u<18446744073709551616→es.length+k+1≤10000000→
  go X_br [.c (.loop btu),.b 0,.c (.seq bi0 .ret)] ⟨[(0,.own false 1 (es.map byteD)),(1,.d (.int .u64 ((u:Int))))],[]⟩=some (.own false 1 ((es++varB (k+1) u).map byteD),[])
 | k,u,es,h,h',hl=>by
  by_cases c:u<128
  · have d_a:decide ((u:Int)≥128)=false:=by simp<;>omega
    have e:varB (k+1) u=[UInt8.ofNat u]:=by simp[varB,c]
    have e1:=ga (n:=u) y8;have e2:u % 256=u:=y8;rw[go_loop,e];simp(disch:=first|exact y7|fail) only[go_sem,X_br,d_a,cv_u8,List.map_append,e1,e2]
  · have d_a:decide ((u:Int)≥128)=true:=by simp<;>omega
    cases k with
    |zero=>simp at h;omega
    | succ k=>
     have e:varB (k+1+1) u=UInt8.ofNat (u % 128+128)::varB (k+1) (u / 128):=by rw[varB,if_neg c]
     have e1:=ga (n:=u % 128+128) y8;have ih:=fg k (u / 128) (es++[UInt8.ofNat (u % 128+128)]) (by rw[Nat.pow_succ] at h;omega) y8 (by simp;omega)
     rw[List.map_append,List.map_cons,List.map_nil,e1,aad,List.singleton_append,← e] at ih;have e3:=bry h';rw[go_loop];simp(disch:=first|exact y7|fail) only[go_sem,X_br,d_a,e3,bb,nv]
     exact ih
theorem ce {b:List UInt8} {u:Nat} (hb:b.length≤1000000) (hu:u<18446744073709551616):evL cfg n_br 0 [.own false 1 (b.map byteD),.d (.int .u64 ((u:Int)))] []=some (.own false 1 ((b++varB 10 u).map byteD),[]):=by
 rw[show evL cfg n_br 0 [.own false 1 (b.map byteD),.d (.int .u64 ((u:Int)))] []=go X_br [.c c_br] ⟨[(0,.own false 1 (b.map byteD)),(1,.d (.int .u64 ((u:Int))))],[]⟩ from ac (fn:=i_br) rfl rfl _ _ _ rfl rfl]
 have hl:=fg 9 u b y8 hu y8;simp(disch:=first|exact y7|fail) only[go_sem,X_br,c_br,hl]
theorem ku {u:Nat} (hu:u<18446744073709551616):evL cfg n_br 0 [.d .nilS,.d (.int .u64 ((u:Int)))] []=some (.own false 1 ((varB 10 u).map byteD),[]):=by
 rw[o_br];by_cases c:u<128
 · have d_a:decide ((u:Int)≥128)=false:=by simp<;>omega
   have e:varB 10 u=[UInt8.ofNat u]:=by simp[varB,c]
   have e1:=ga (n:=u) y8;have e2:u % 256=u:=y8;simp(disch:=first|exact y7|fail) only[go_sem,X_br,c_br,go_loop,d_a,cv_u8,e,e1,e2]
 · have d_a:decide ((u:Int)≥128)=true:=by simp<;>omega
   have e:varB 10 u=UInt8.ofNat (u % 128+128)::varB 9 (u / 128):=by rw[varB,if_neg c]
   have e1:=ga (n:=u % 128+128) y8;have ih:=fg 8 (u / 128) [UInt8.ofNat (u % 128+128)] y8 y8 zb;rw[List.map_cons,List.map_nil,e1,List.singleton_append,← e] at ih;have e3:=bry hu;simp(disch:=first|exact y7|fail) only[go_sem,X_br,c_br]
   rw[go_loop];simp(disch:=first|exact y7|fail) only[go_sem,X_br,d_a,e3,bb,nv]
   exact ih
def varD (m:Nat×Nat×Nat):V:= .d (.tup [.int .u64 (m.1:Int),.int .i64 (m.2.1:Int),.int .i64 (m.2.2:Int)])
theorem oq:∀ (r:List UInt8) (l:List UInt8) (i v:Nat),l.drop i=r→i≤9→v<128 ^ i→l.length≤1000000000→i≤l.length→
  go X_cd [.c (.loop avr),.b 0,.c (.seq aom .ret)] ⟨[(4,.d (.int .u64 ((v:Int)))),(19,.d (.sl ((l).map byteD))),(20,.d (.int .i64 ((l.length:Int)))),(21,.d (.int .i64 ((i:Int))))],[]⟩=some (varD (varM i v r),[])
 | [],l,i,v,hr,hi,hv,hl,hil=>by
  have:l.length≤i:=by simpa using hr
  have d_a:decide ((i:Int)<l.length)=false:=by simp<;>omega
  rw[go_loop];simp(disch:=first|exact y7|fail) only[go_sem,X_cd,d_a]
  rfl
 | c::r,l,i,v,hr,hi,hv,hl,hil=>by
  have hlt:i<l.length:=by
    apply Classical.byContradiction;intro h;rw[aa6 y8] at hr;cases hr
  have hc:l[i]? =some c:=by
    have:=congrArg (·[0]?) hr
    simpa using this
  have hr':l.drop (i+1)=r:=by rw[← List.drop_drop,hr];rfl
  have h256:=u8_lt c;have d_a:decide ((i:Int)<l.length)=true:=by simp<;>omega
  rw[go_loop];unfold varM;have ea:=bfc c;by_cases h9:i=9
  · have d9:((i:Int)==9)=true:=by simp;omega
    by_cases h1:1<c.toNat
    · have d_b:decide ((c.toNat:Int)>1)=true:=by simp<;>omega
      rw[if_pos ⟨h9,h1⟩];simp(disch:=first|exact y7|fail) only[go_sem,X_cd,d_a,hc,aw,d9,d_b]
      rfl
    · have d_b:decide ((c.toNat:Int)>1)=false:=by simp<;>omega
      have d_d:decide ((c.toNat:Int)<128)=true:=by simp<;>omega
      have eb:=qw (v:=v) (x:=c.toNat % 128) (i:=i) hv (.inr ⟨h9,by omega⟩)
      rw[if_neg y8,if_pos y8];rw[show c.toNat % 128=c.toNat by omega] at ea eb
      simp(disch:=first|exact y7|fail) only[go_sem,X_cd,d_a,hc,aw,d9,d_b,d_d,ea,iw,eb,vo,show c.toNat % 18446744073709551616=c.toNat by omega]
      unfold varD
      first|done|with_reducible rfl| (simp only[Option.some.injEq,Prod.mk.injEq,V.d.injEq,D.int.injEq,D.tup.injEq,D.bool.injEq,List.cons.injEq,and_true,true_and];omega)
  · have eb:=qw (v:=v) (x:=c.toNat % 128) (i:=i) hv (.inl ⟨by omega,by omega⟩)
    have d9:((i:Int)==9)=false:=by simp;omega
    rw[if_neg y8];by_cases h2:c.toNat<128
    · have d_d:decide ((c.toNat:Int)<128)=true:=by simp<;>omega
      rw[if_pos h2];rw[show c.toNat % 128=c.toNat by omega] at ea eb
      simp(disch:=first|exact y7|fail) only[go_sem,X_cd,d_a,hc,aw,d9,d_d,ea,iw,eb,vo,show c.toNat % 18446744073709551616=c.toNat by omega]
      unfold varD
      first|done|with_reducible rfl| (simp only[Option.some.injEq,Prod.mk.injEq,V.d.injEq,D.int.injEq,D.tup.injEq,D.bool.injEq,List.cons.injEq,and_true,true_and];omega)
    · have d_d:decide ((c.toNat:Int)<128)=false:=by simp<;>omega
      rw[if_neg h2];have hp:v+(c.toNat-128)*128 ^ i<128 ^ (i+1):=by
       have:(c.toNat-128)*128 ^ i≤127*128 ^ i:=aaf _ y8;rw[Nat.pow_succ];omega
      have ih:=oq r l (i+1) (v+(c.toNat-128)*128 ^ i) hr' y8 hp hl y8;rw[show(((i+1:Nat)):Int)=(i:Int)+1 by omega,← show c.toNat % 128=c.toNat-128 by omega] at ih
      rw[← show c.toNat % 128=c.toNat-128 by omega]
      simp(disch:=first|exact y7|fail) only[go_sem,X_cd,d_a,hc,aw,d9,d_d,ea,iw,eb,vo,show c.toNat % 128 % 18446744073709551616=c.toNat % 128 by omega]
      exact ih
theorem oc:∀ (r:List UInt8) (l:List UInt8) (k i v:Nat),l.drop (k+i)=r→i≤9→v<128 ^ i→l.length≤1000000000→k+i≤l.length→
  go X_az [.c (.loop avv),.b 0,.c (.seq bky .ret)] ⟨[(0,.d (.sl ((l).map byteD))),(1,.d (.int .i64 ((k:Int)))),(7,.d (.int .u64 ((v:Int)))),(8,.d (.int .i64 ((i:Int))))],[]⟩=some (varD (varM i v r),[])
 | [],l,k,i,v,hr,hi,hv,hl,hil=>by
  have:l.length≤k+i:=by simpa using hr
  have d_a:decide ((i:Int)<10)=true:=by simp<;>omega
  have d2:((k:Int)+i==l.length)=true:=by simp;omega
  rw[go_loop];simp(disch:=first|exact y7|fail) only[go_sem,X_az,d_a,d2]
  rfl
 | c::r,l,k,i,v,hr,hi,hv,hl,hil=>by
  have hlt:k+i<l.length:=by
    apply Classical.byContradiction;intro h;rw[aa6 y8] at hr;cases hr
  have hc:l[((k:Int)+i).toNat]? =some c:=by
    have:=congrArg (·[0]?) hr
    rw[show((k:Int)+i).toNat=k+i by omega]
    simpa using this
  have hr':l.drop (k+(i+1))=r:=by rw[← Nat.add_assoc,← List.drop_drop,hr];rfl
  have h256:=u8_lt c;have d_a:decide ((i:Int)<10)=true:=by simp<;>omega
  have d2:((k:Int)+i==l.length)=false:=by simp;omega
  rw[go_loop];unfold varM;have ea:=var_and c;by_cases h9:i=9
  · have d9:((i:Int)==9)=true:=by simp;omega
    by_cases h1:1<c.toNat
    · have d_b:decide ((c.toNat:Int)>1)=true:=by simp<;>omega
      rw[if_pos ⟨h9,h1⟩];simp(disch:=first|exact y7|fail) only[go_sem,X_az,d_a,d2,ae,hc,aw,d9,d_b]
      rfl
    · have d_b:decide ((c.toNat:Int)>1)=false:=by simp<;>omega
      have d_d:decide ((c.toNat:Int)<128)=true:=by simp<;>omega
      have eb:=qw (v:=v) (x:=c.toNat % 128) (i:=i) hv (.inr ⟨h9,by omega⟩)
      rw[if_neg y8,if_pos y8];rw[show c.toNat % 128=c.toNat by omega] at ea eb
      simp(disch:=first|exact y7|fail) only[go_sem,X_az,d_a,d2,ae,hc,aw,d9,d_b,d_d,ea,iw,eb,vo,show i % 18446744073709551616=i by omega,show c.toNat % 18446744073709551616=c.toNat by omega]
      unfold varD
      first|done|with_reducible rfl| (simp only[Option.some.injEq,Prod.mk.injEq,V.d.injEq,D.int.injEq,D.tup.injEq,D.bool.injEq,List.cons.injEq,and_true,true_and];omega)
  · have eb:=qw (v:=v) (x:=c.toNat % 128) (i:=i) hv (.inl ⟨by omega,by omega⟩)
    have d9:((i:Int)==9)=false:=by simp;omega
    rw[if_neg y8];by_cases h2:c.toNat<128
    · have d_d:decide ((c.toNat:Int)<128)=true:=by simp<;>omega
      rw[if_pos h2];rw[show c.toNat % 128=c.toNat by omega] at ea eb
      simp(disch:=first|exact y7|fail) only[go_sem,X_az,d_a,d2,ae,hc,aw,d9,d_d,ea,iw,eb,vo,show i % 18446744073709551616=i by omega,show c.toNat % 18446744073709551616=c.toNat by omega]
      unfold varD
      first|done|with_reducible rfl| (simp only[Option.some.injEq,Prod.mk.injEq,V.d.injEq,D.int.injEq,D.tup.injEq,D.bool.injEq,List.cons.injEq,and_true,true_and];omega)
    · have d_d:decide ((c.toNat:Int)<128)=false:=by simp<;>omega
      rw[if_neg h2];have hp:v+(c.toNat-128)*128 ^ i<128 ^ (i+1):=by
       have:(c.toNat-128)*128 ^ i≤127*128 ^ i:=aaf _ y8;rw[Nat.pow_succ];omega
      have ih:=oc r l k (i+1) (v+(c.toNat-128)*128 ^ i) hr' y8 hp hl y8;rw[show(((i+1:Nat)):Int)=(i:Int)+1 by omega,← show c.toNat % 128=c.toNat-128 by omega] at ih
      rw[← show c.toNat % 128=c.toNat-128 by omega]
      simp(disch:=first|exact y7|fail) only[go_sem,X_az,d_a,d2,ae,hc,aw,d9,d_d,ea,iw,eb,vo,show i % 18446744073709551616=i by omega,show c.toNat % 128 % 18446744073709551616=c.toNat % 128 by omega]
      exact ih
