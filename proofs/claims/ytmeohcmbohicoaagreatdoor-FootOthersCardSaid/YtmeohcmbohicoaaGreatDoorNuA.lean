import Derived.Test.YtmeohcmbohicoaaGreatDoorExt
import Derived.Test.YtmeohcmbohicoaaGreatDoorL9
import Derived.Test.YtmeohcmbohicoaaGreatDoorL8
namespace Go.Proofs.YtmeohcmbohicoaaGreatDoor
open Go.Ev Go
set_option maxRecDepth 100000
set_option maxHeartbeats 4000000
def n_dl:FuncId:=15
def kb0:List UInt8:=[8,3,16,7,26,10,8,3,16,0,24,0,32,0,40,1,34,8,8,12,18,1,1,26,1,97,34,2,8,3,42,6,10,1,107,18,1,118,48,1,58,4,8,1,80,0,58,12,8,1,18,6,8,10,16,10,24,10,80,0,64,10]
theorem k_call0:evL cfg n_bq 0 [.d (.agg [.int .i64 12,.sl [.str [97]],.sl [.agg [.int .i64 3,.sl [],.sl [],.int .i64 0,.int .i64 0,.int .i64 0]],.int .i64 0,.int .i64 0,.int .i64 0])] []=some (.d (.sl [.agg [.int .i64 12,.sl [.int .i64 1],.sl [.str [97]],.int .i64 0,.int .i64 0,.int .i64 0,.int .i64 (-1),.int .i64 1],.agg [.int .i64 3,.sl [],.sl [],.int .i64 0,.int .i64 0,.int .i64 0,.int .i64 0,.int .i64 2]]),[]):=az (n:=100) vo
theorem k_call1:evL cfg n_dl 0 [.d (.agg [.int .i64 7,.sl [.agg [.int .i64 3,.int .i64 0,.int .i64 0,.int .i64 0,.int .i64 1]],.int .i64 12,.sl [.str [97]],.sl [.agg [.int .i64 3,.sl [],.sl [],.int .i64 0,.int .i64 0,.int .i64 0]],.int .i64 0,.int .i64 0,.int .i64 0,.sl [.agg [.str [107],.sl [.int .u8 118]]],.int .i64 1,.sl [.agg [.int .i64 1,.bool false,.bool false,.bool false,.int .i64 0,.int .i64 0,.sl [],.sl [],.bool false,.int .i64 0,.int .i64 0,.sl [],.sl [],.bool false,.int .i64 0],.agg [.int .i64 1,.bool false,.bool true,.bool false,.int .i64 5,.int .i64 0,.sl [],.sl [],.bool false,.int .i64 5,.int .i64 0,.sl [],.sl [],.bool true,.int .i64 5]],.int .i64 10])] []=some (.d (.tup [.sl (kb0.map byteD),.int .i64 0]),[]):=az (n:=100) vo
set_option maxRecDepth 100000
theorem k_call2:evL cfg n_ap 0 [.d (.sl (kb0.map byteD))] []=some (.d (.tup [.agg [.int .i64 7,.sl [.agg [.int .i64 3,.int .i64 0,.int .i64 0,.int .i64 0,.int .i64 1]],.int .i64 12,.sl [.str [97]],.sl [.agg [.int .i64 3,.sl [],.sl [],.int .i64 0,.int .i64 0,.int .i64 0]],.int .i64 0,.int .i64 0,.int .i64 0,.sl [.agg [.str [107],.sl [.int .u8 118]]],.int .i64 1,.sl [.agg [.int .i64 1,.bool false,.bool false,.bool false,.int .i64 0,.int .i64 0,.sl [],.sl [],.bool false,.int .i64 0,.int .i64 0,.sl [],.sl [],.bool false,.int .i64 0],.agg [.int .i64 1,.bool false,.bool true,.bool false,.int .i64 5,.int .i64 0,.sl [],.sl [],.bool false,.int .i64 5,.int .i64 0,.sl [],.sl [],.bool true,.int .i64 5]],.int .i64 10],.int .i64 0]),[]):=az (n:=100) vo
set_option maxRecDepth 100000
def memo:Memo:=[(n_bq,[.agg [.int .i64 12,.sl [.str [97]],.sl [.agg [.int .i64 3,.sl [],.sl [],.int .i64 0,.int .i64 0,.int .i64 0]],.int .i64 0,.int .i64 0,.int .i64 0]],.d (.sl [.agg [.int .i64 12,.sl [.int .i64 1],.sl [.str [97]],.int .i64 0,.int .i64 0,.int .i64 0,.int .i64 (-1),.int .i64 1],.agg [.int .i64 3,.sl [],.sl [],.int .i64 0,.int .i64 0,.int .i64 0,.int .i64 0,.int .i64 2]])),
 (n_dl,[.agg [.int .i64 7,.sl [.agg [.int .i64 3,.int .i64 0,.int .i64 0,.int .i64 0,.int .i64 1]],.int .i64 12,.sl [.str [97]],.sl [.agg [.int .i64 3,.sl [],.sl [],.int .i64 0,.int .i64 0,.int .i64 0]],.int .i64 0,.int .i64 0,.int .i64 0,.sl [.agg [.str [107],.sl [.int .u8 118]]],.int .i64 1,.sl [.agg [.int .i64 1,.bool false,.bool false,.bool false,.int .i64 0,.int .i64 0,.sl [],.sl [],.bool false,.int .i64 0,.int .i64 0,.sl [],.sl [],.bool false,.int .i64 0],.agg [.int .i64 1,.bool false,.bool true,.bool false,.int .i64 5,.int .i64 0,.sl [],.sl [],.bool false,.int .i64 5,.int .i64 0,.sl [],.sl [],.bool true,.int .i64 5]],.int .i64 10]],.d (.tup [.sl (kb0.map byteD),.int .i64 0])),
 (n_ap,[.sl (kb0.map byteD)],.d (.tup [.agg [.int .i64 7,.sl [.agg [.int .i64 3,.int .i64 0,.int .i64 0,.int .i64 0,.int .i64 1]],.int .i64 12,.sl [.str [97]],.sl [.agg [.int .i64 3,.sl [],.sl [],.int .i64 0,.int .i64 0,.int .i64 0]],.int .i64 0,.int .i64 0,.int .i64 0,.sl [.agg [.str [107],.sl [.int .u8 118]]],.int .i64 1,.sl [.agg [.int .i64 1,.bool false,.bool false,.bool false,.int .i64 0,.int .i64 0,.sl [],.sl [],.bool false,.int .i64 0,.int .i64 0,.sl [],.sl [],.bool false,.int .i64 0],.agg [.int .i64 1,.bool false,.bool true,.bool false,.int .i64 5,.int .i64 0,.sl [],.sl [],.bool false,.int .i64 5,.int .i64 0,.sl [],.sl [],.bool true,.int .i64 5]],.int .i64 10],.int .i64 0]))]
theorem memo_ok:MemoOk cfg memo:=MemoOk.cons k_call0 (MemoOk.cons k_call1 (MemoOk.cons k_call2 (MemoOk.nil)))
theorem jp:evL cfg n_dg 0 [] []=some (.d (.bool (true)),[]):=akg memo_ok (n:=100) vo
set_option maxHeartbeats 2000000
theorem fa (b:List UInt8) (hl:b.length≤1000000):evL cfg n_bg 0 [.d (.sl ((b).map byteD))] []=some ((if b.isEmpty then .d .nilS else .own false 1 (b.map byteD)),[]):=by
 cases b with
 |nil=>exact az (n:=3) vo
 | cons c b=>
  rw[o_bg];rw[List.length_cons] at hl;simp(disch:=first|exact vm|fail) only[go_sem,X_bg,c_bg,List.isEmpty]
theorem du:∀ (k u:Nat) (es:List UInt8),u<128 ^ (k+1)→u<18446744073709551616→es.length+k+1≤10000000→
  go X_bc [.c (.loop a8o),.b 0,.c (.seq ayu .ret)] ⟨[(0,.own false 1 (es.map byteD)),(1,.d (.int .u64 ((u:Int))))],[]⟩=some (.own false 1 ((es++varB (k+1) u).map byteD),[])
 | k,u,es,h,h',hl=>by
  by_cases c:u<128
  · have d_a:decide ((u:Int)≥128)=false:=by simp<;>omega
    have e:varB (k+1) u=[UInt8.ofNat u]:=by simp[varB,c]
    have e1:=ll (n:=u) vn;have e2:u % 256=u:=vn;rw[go_loop,e];simp(disch:=first|exact vm|fail) only[go_sem,X_bc,d_a,cv_u8,List.map_append,e1,e2]
  · have d_a:decide ((u:Int)≥128)=true:=by simp<;>omega
    cases k with
    |zero=>simp at h;omega
    | succ k=>
     have e:varB (k+1+1) u=UInt8.ofNat (u % 128+128)::varB (k+1) (u / 128):=by rw[varB,if_neg c]
     have e1:=ll (n:=u % 128+128) vn;have ih:=du k (u / 128) (es++[UInt8.ofNat (u % 128+128)]) (by rw[Nat.pow_succ] at h;omega) vn (by simp;omega)
     rw[List.map_append,List.map_cons,List.map_nil,e1,wh,List.singleton_append,← e] at ih;have e3:=a6n h';rw[go_loop];simp(disch:=first|exact vm|fail) only[go_sem,X_bc,d_a,e3,ew,vg]
     exact ih
theorem bn {b:List UInt8} {u:Nat} (hb:b.length≤1000000) (hu:u<18446744073709551616):evL cfg n_bc 0 [.own false 1 (b.map byteD),.d (.int .u64 ((u:Int)))] []=some (.own false 1 ((b++varB 10 u).map byteD),[]):=by
 rw[show evL cfg n_bc 0 [.own false 1 (b.map byteD),.d (.int .u64 ((u:Int)))] []=go X_bc [.c c_bc] ⟨[(0,.own false 1 (b.map byteD)),(1,.d (.int .u64 ((u:Int))))],[]⟩ from ap (fn:=i_bc) rfl rfl _ _ _ rfl rfl]
 have hl:=du 9 u b vn hu vn;simp(disch:=first|exact vm|fail) only[go_sem,X_bc,c_bc,hl]
theorem er {u:Nat} (hu:u<18446744073709551616):evL cfg n_bc 0 [.d .nilS,.d (.int .u64 ((u:Int)))] []=some (.own false 1 ((varB 10 u).map byteD),[]):=by
 rw[o_bc];by_cases c:u<128
 · have d_a:decide ((u:Int)≥128)=false:=by simp<;>omega
   have e:varB 10 u=[UInt8.ofNat u]:=by simp[varB,c]
   have e1:=ll (n:=u) vn;have e2:u % 256=u:=vn;simp(disch:=first|exact vm|fail) only[go_sem,X_bc,c_bc,go_loop,d_a,cv_u8,e,e1,e2]
 · have d_a:decide ((u:Int)≥128)=true:=by simp<;>omega
   have e:varB 10 u=UInt8.ofNat (u % 128+128)::varB 9 (u / 128):=by rw[varB,if_neg c]
   have e1:=ll (n:=u % 128+128) vn;have ih:=du 8 (u / 128) [UInt8.ofNat (u % 128+128)] vn vn vq;rw[List.map_cons,List.map_nil,e1,List.singleton_append,← e] at ih;have e3:=a6n hu;simp(disch:=first|exact vm|fail) only[go_sem,X_bc,c_bc]
   rw[go_loop];simp(disch:=first|exact vm|fail) only[go_sem,X_bc,d_a,e3,ew,vg]
   exact ih
def varD (m:Nat×Nat×Nat):V:= .d (.tup [.int .u64 (m.1:Int),.int .i64 (m.2.1:Int),.int .i64 (m.2.2:Int)])
theorem ku:∀ (r:List UInt8) (l:List UInt8) (i v:Nat),l.drop i=r→i≤9→v<128 ^ i→l.length≤1000000000→i≤l.length→
  go X_bk [.c (.loop aki),.b 0,.c (.seq agd .ret)] ⟨[(4,.d (.int .u64 ((v:Int)))),(19,.d (.sl ((l).map byteD))),(20,.d (.int .i64 ((l.length:Int)))),(21,.d (.int .i64 ((i:Int))))],[]⟩=some (varD (varM i v r),[])
 | [],l,i,v,hr,hi,hv,hl,hil=>by
  have:l.length≤i:=by simpa using hr
  have d_a:decide ((i:Int)<l.length)=false:=by simp<;>omega
  rw[go_loop];simp(disch:=first|exact vm|fail) only[go_sem,X_bk,d_a]
  rfl
 | c::r,l,i,v,hr,hi,hv,hl,hil=>by
  have hlt:i<l.length:=by
    apply Classical.byContradiction;intro h;rw[List.drop_of_length_le vn] at hr;cases hr
  have hc:l[i]? =some c:=by
    have:=congrArg (·[0]?) hr
    simpa using this
  have hr':l.drop (i+1)=r:=by rw[← List.drop_drop,hr];rfl
  have h256:=u8_lt c;have d_a:decide ((i:Int)<l.length)=true:=by simp<;>omega
  rw[go_loop];unfold varM;have ea:=avl c;by_cases h9:i=9
  · have d9:((i:Int)==9)=true:=by simp;omega
    by_cases h1:1<c.toNat
    · have d_b:decide ((c.toNat:Int)>1)=true:=by simp<;>omega
      rw[if_pos ⟨h9,h1⟩];simp(disch:=first|exact vm|fail) only[go_sem,X_bk,d_a,hc,gn,d9,d_b]
      rfl
    · have d_b:decide ((c.toNat:Int)>1)=false:=by simp<;>omega
      have d_d:decide ((c.toNat:Int)<128)=true:=by simp<;>omega
      have eb:=ak8 (v:=v) (x:=c.toNat % 128) (i:=i) hv (.inr ⟨h9,by omega⟩)
      rw[if_neg vn,if_pos vn];rw[show c.toNat % 128=c.toNat by omega] at ea eb
      simp(disch:=first|exact vm|fail) only[go_sem,X_bk,d_a,hc,gn,d9,d_b,d_d,ea,m9,eb,a7x,show c.toNat % 18446744073709551616=c.toNat by omega]
      unfold varD
      first|done|with_reducible rfl| (simp only[Option.some.injEq,Prod.mk.injEq,V.d.injEq,D.int.injEq,D.tup.injEq,D.bool.injEq,List.cons.injEq,and_true,true_and];omega)
  · have eb:=ak8 (v:=v) (x:=c.toNat % 128) (i:=i) hv (.inl ⟨by omega,by omega⟩)
    have d9:((i:Int)==9)=false:=by simp;omega
    rw[if_neg vn];by_cases h2:c.toNat<128
    · have d_d:decide ((c.toNat:Int)<128)=true:=by simp<;>omega
      rw[if_pos h2];rw[show c.toNat % 128=c.toNat by omega] at ea eb
      simp(disch:=first|exact vm|fail) only[go_sem,X_bk,d_a,hc,gn,d9,d_d,ea,m9,eb,a7x,show c.toNat % 18446744073709551616=c.toNat by omega]
      unfold varD
      first|done|with_reducible rfl| (simp only[Option.some.injEq,Prod.mk.injEq,V.d.injEq,D.int.injEq,D.tup.injEq,D.bool.injEq,List.cons.injEq,and_true,true_and];omega)
    · have d_d:decide ((c.toNat:Int)<128)=false:=by simp<;>omega
      rw[if_neg h2];have hp:v+(c.toNat-128)*128 ^ i<128 ^ (i+1):=by
       have:(c.toNat-128)*128 ^ i≤127*128 ^ i:=wz _ vn;rw[Nat.pow_succ];omega
      have ih:=ku r l (i+1) (v+(c.toNat-128)*128 ^ i) hr' vn hp hl vn;rw[show(((i+1:Nat)):Int)=(i:Int)+1 by omega,← show c.toNat % 128=c.toNat-128 by omega] at ih
      rw[← show c.toNat % 128=c.toNat-128 by omega]
      simp(disch:=first|exact vm|fail) only[go_sem,X_bk,d_a,hc,gn,d9,d_d,ea,m9,eb,a7x,show c.toNat % 128 % 18446744073709551616=c.toNat % 128 by omega]
      exact ih
