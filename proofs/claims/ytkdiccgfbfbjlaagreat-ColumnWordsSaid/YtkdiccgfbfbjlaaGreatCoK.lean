import Derived.Test.YtkdiccgfbfbjlaaGreatCoH
namespace Go.Proofs.YtkdiccgfbfbjlaaGreat
open Go Go.Ev
set_option maxHeartbeats 4000000
set_option maxRecDepth 100000
theorem a3w (l:List Int) (hf:∀ v∈l,inI v) (hl:l.length≤1000000) (s:Int):∀ (q:List Int) (i:Nat),1≤i→i≤l.length→l.drop i=q→∀ o:List (Nat×V),o=[]∨o=[(25,.d (.bool (false)))]→
  ∃ n:Nat,1≤n∧n≤l.length∧go X_bn [.c (.loop ajk),.b 0,.c (.seq afw .ret)] ⟨(0,.d (i64s l))::(3,.d (.int .i64 ((i:Int))))::(4,.d (.int .i64 (s)))::o,[]⟩=some (.d (.int .i64 ((n:Int))),[])
 | [],i,h1,hi,hq,o,ho=>by
  have:=cf hq;have:i=l.length:=yp;subst this;have d_a:decide ((l.length:Int)<l.length)=false:=by simp<;>omega
  refine⟨l.length,h1,y7 _,?_⟩;rw[go_loop];rcases ho with rfl|rfl<;>simp(disch:=first|exact yo|fail) only[go_sem,X_bn,i64s,d_a,yz]
 | v::q,i,h1,hi,hq,o,ho=>by
  obtain⟨g1,h2,h3⟩:=da hq;have e1:(i:Int)-1=((i-1:Nat):Int):=yp;obtain⟨u,hu⟩:∃ u,l[i-1]? =some u:=⟨_,yy yp⟩
  obtain⟨t,ok,ht,hsub⟩:=dv (hf v (List.mem_of_getElem? h2)) (hf u (List.mem_of_getElem? hu));have d_a:decide ((i:Int)<l.length)=true:=by simp<;>omega
  cases ok with
  | false=>
   refine⟨i,h1,hi,?_⟩;rw[go_loop];rcases ho with rfl|rfl<;>simp(disch:=first|exact yo|fail) only[go_sem,X_bn,i64s,d_a,e1,h2,hu,hsub,yz]
  | true=>
   cases e2:(t !=s) with
   | true=>
    refine⟨i,h1,hi,?_⟩;rw[go_loop];rcases ho with rfl|rfl<;>simp(disch:=first|exact yo|fail) only[go_sem,X_bn,i64s,d_a,e1,e2,h2,hu,hsub,yz]
   | false=>
    obtain⟨n,k1,k2,k3⟩:=a3w l hf hl s q (i+1) yp g1 h3 [] (.inl rfl);refine⟨n,k1,k2,Eq.trans ?_ k3⟩;rw[go_loop];rcases ho with rfl|rfl<;>simp(disch:=first|exact yo|fail) only[go_sem,X_bn,i64s,d_a,e1,e2,h2,hu,hsub,yz,Int.natCast_add]
theorem even_ans {l:List Int} (hf:∀ v∈l,inI v) (hl:l.length≤1000000) (h1:1≤l.length):∃ n:Nat,1≤n∧n≤l.length∧evL cfg n_bn 0 [.d (i64s l)] []=some (.d (.int .i64 ((n:Int))),[]):=by
 rw[o_bn];have z1:min (1:Int) 2=1:=rfl
 match l,hf,hl,h1 with
 | [v],hf,hl,_=>
  refine⟨1,y7 _,y7 _,?_⟩;simp(disch:=first|exact yo|fail) only[go_sem,X_bn,c_bn,i64s,z1,Int.reduceLT,decide_true]
 | u::v::q,hf,hl,_=>
  obtain⟨t,ok,ht,hsub⟩:=dv (hf v yt) (hf u yt);have e1:min (((u::v::q).length:Nat):Int) 2=2:=by rw[List.length_cons,List.length_cons];omega
  rw[List.length_cons,List.length_cons] at e1;cases ok with
  | false=>
   refine⟨1,y7 _,by simp,?_⟩
   simp(disch:=first|exact yo|fail) only[go_sem,X_bn,c_bn,i64s,hsub,e1,Int.reduceLT,decide_false]
  | true=>
   obtain⟨n,k1,k2,k3⟩:=a3w (u::v::q) hf hl t q 2 yp yt rfl [(25,.d (.bool (false)))] (.inr rfl);refine⟨n,k1,k2,Eq.trans ?_ k3⟩;have z2:((2:Nat):Int)=2:=rfl;simp(disch:=first|exact yo|fail) only[go_sem,X_bn,c_bn,i64s,hsub,e1,z2,Int.reduceLT,decide_false]
abbrev nothing:V:= .d (.tup [])
def dB (x:List UInt8):D:=match x with
 | []=> .nilS
 |y::r=> .sl ((y::r).map byteD)
theorem auv:dB []= .nilS:=rfl
theorem dB_ne {x:List UInt8} (h:x≠[]):dB x= .sl (x.map byteD):=by
 cases x with
 |nil=>exact absurd rfl h
 |cons y r=>rfl
theorem Fine.sub {sg:Bool} {l:List Int} (h:Fine sg l) (i n:Nat):Fine sg ((l.take n).drop i):=fun v hv=>h v (aaj (aai hv))
abbrev mS (sg:Bool) (l:List Int) (x:List UInt8) (f:Nat):List (Cel×V):=[(⟨0,2,0⟩,.d (i64s l)),(⟨0,3,0⟩,.d (.bool (sg))),(⟨0,5,0⟩,.d (dB x)),(⟨0,6,0⟩,.d (.int .i64 ((f:Int))))]
theorem aek {sg:Bool} {l:List Int} (h:Fine sg l) (h512:l.length≤512) (x:List UInt8) (hx:x.length≤600000) {f t:Nat} (hft:f≤t) (ht:t≤l.length):
   ∃ x':List UInt8,(x'≠[]∨f=t∧x'=x)∧x'.length≤x.length+70*(t-f)∧evL cfg n_b4 1 [.d (.int .i64 ((t:Int))),.ref 0 6 0,.ref 0 5 0,.ref 0 2 0,.ref 0 3 0] (mS sg l x f)=some (nothing,mS sg l x' f):=by
 by_cases hlt:f<t
 · have hlen:((l.take t).drop f).length=t-f:=by rw[aat,aao];omega
   obtain⟨x',hx0,hx1,hr⟩:=afq (b:=x) yp (h.sub f t) (by rw[hlen];omega) (by rw[hlen];omega)
   rw[hlen] at hx1;have d_a:decide ((t:Int)>f)=true:=by simp<;>omega
   refine⟨x',.inl hx0,by omega,?_⟩
   rw[e_b4 1 _ _ rfl rfl];simp only[mS,dB_ne hx0];simp only[i64s,List.map_drop,List.map_take] at hr;by_cases hz:x=[]
   · subst hz
     rw[List.map_nil] at hr;simp(disch:=first|exact yo|fail) only[go_sem,X_b4,c_b4,i64s,auv,d_a,hr,yz]
   · rw[dB_ne hz]
     simp(disch:=first|exact yo|fail) only[go_sem,X_b4,c_b4,i64s,d_a,hr,yz]
 · refine⟨x,.inr ⟨by omega,rfl⟩,by omega,?_⟩
   have d_a:decide ((t:Int)>f)=false:=by simp<;>omega
   rw[e_b4 1 _ _ rfl rfl];simp only[mS];by_cases hz:x=[]
   · subst hz
     simp(disch:=first|exact yo|fail) only[go_sem,X_b4,c_b4,i64s,auv,d_a]
   · rw[dB_ne hz]
     simp(disch:=first|exact yo|fail) only[go_sem,X_b4,c_b4,i64s,d_a]
abbrev spE (i:Nat):List (Nat×V):=[(2,.ref 0 2 0),(3,.ref 0 3 0),(5,.ref 0 5 0),(6,.ref 0 6 0),(7,.clo n_b4 [] [.ref 0 6 0,.ref 0 5 0,.ref 0 2 0,.ref 0 3 0]),(8,.d (.int .i64 ((i:Int))))]
theorem afm {sg:Bool} {l:List Int} (h:Fine sg l) (h1:1≤l.length) (h512:l.length≤512):∀ (k i f:Nat) (x:List UInt8),l.length-i≤k→f≤i→i≤l.length→(f=0∨x≠[])→x.length≤70*f→
  ∃ x':List UInt8,x'≠[]∧x'.length≤70*l.length∧go X_ak [.c (.loop ajr),.b 0,.c (.seq agy (.seq agx .ret))] ⟨spE i,mS sg l x f⟩=some (.d (.sl ((x').map byteD)),[])
 | k,i,f,x,hk,hfi,hil,hx0,hx=>by
  by_cases hlt:i<l.length
  · cases k with
    |zero=>omega
    |succ k=>
    have d_a:decide ((i:Int)<l.length)=true:=by simp<;>omega
    have et:List.take l.length (l.map (D.int .i64))=l.map (D.int .i64):=aaz yt;have hd:(l.drop i).length=l.length-i:=aat;obtain⟨n,n1,n2,he⟩:=even_ans (l:=l.drop i) (fun v hv=>(h v (aai hv)).1) yp yp
    rw[hd] at n2;simp only[i64s,List.map_drop] at he;rcases y9 (decide ((n:Int)<8)) with d_c|d_c<;>have p_c:=d_c<;>simp only[zh,zb,zt,zi,ne_eq] at p_c
    · obtain⟨x',q1,q2,q3⟩:=afm h h1 h512 k (i+1) f x yp yp yp hx0 hx
      refine⟨x',q1,q2,Eq.trans ?_ q3⟩;simp only[mS];rw[go_loop];simp(disch:=first|exact yo|fail) only[go_sem,X_ak,spE,i64s,d_a,d_c,et,he,yz,Int.natCast_add]
    · obtain⟨x1,p1,p2,p3⟩:=aek h h512 x yp hfi hil
      have e1:(i:Int)+n=((i+n:Nat):Int):=yp;have hlen:((l.take (i+n)).drop i).length=n:=by rw[aat,aao];omega
      obtain⟨x2,hx2,hx3,hr⟩:=afq (b:=x1) yp (h.sub i (i+n)) (by rw[hlen];omega) (by rw[hlen];omega)
      rw[hlen] at hx3;obtain⟨x',q1,q2,q3⟩:=afm h h1 h512 k (i+n) (i+n) x2 yp yp yp (.inr hx2) yp;refine⟨x',q1,q2,Eq.trans ?_ q3⟩;simp only[mS,dB_ne hx2] at p3 ⊢;simp only[i64s,List.map_drop,List.map_take] at hr p3;rw[go_loop];by_cases hz:x1=[]
      · subst hz
        rw[List.map_nil] at hr;rw[auv] at p3;simp(disch:=first|exact yo|fail) only[go_sem,X_ak,spE,i64s,d_a,d_c,et,he,p3,hr,e1,yz]
        done
      · rw[dB_ne hz] at p3
        simp(disch:=first|exact yo|fail) only[go_sem,X_ak,spE,i64s,d_a,d_c,et,he,p3,hr,e1,yz]
        done
  · have:i=l.length:=yp
    subst this;have d_a:decide ((l.length:Int)<l.length)=false:=by simp<;>omega
    obtain⟨x1,p1,p2,p3⟩:=aek h h512 x yp hfi (y7 _);have hx1:x1≠[]:=by
      rcases p1 with p1|⟨p1,rfl⟩
      · exact p1
      · rcases hx0 with rfl|hx0
        · omega
        · exact hx0
    refine⟨x1,hx1,by omega,?_⟩
    simp only[mS,dB_ne hx1,i64s] at p3 ⊢;rw[go_loop];simp(disch:=first|exact yo|fail) only[go_sem,X_ak,spE,i64s,d_a,p3,yz]
    done
theorem axk {sg:Bool} {l:List Int} (h:Fine sg l) (h1:1≤l.length) (h512:l.length≤512):∃ x:List UInt8,x≠[]∧x.length≤70*l.length∧evL cfg n_ak 0 [.d (i64s l),.d (.bool (sg))] []=some (.d (.sl ((x).map byteD)),[]):=by
 obtain⟨x,q1,q2,q3⟩:=afm h h1 h512 l.length 0 0 [] yp (y7 _) (aad _) (.inl rfl) yt;refine⟨x,q1,q2,Eq.trans ?_ q3⟩;rw[o_ak];simp(disch:=first|exact yo|fail) only[go_sem,X_ak,c_ak,mS,spE,i64s,auv,Int.natCast_zero,yz]
set_option maxRecDepth 100000
theorem a5k {x:List UInt8} (hx:x≠[]) (hl:x.length≤1000000000) (g:Get) (dst:Option Nat) (z:Nat) (o:IOpd):appV g dst z o (.d .nilS) (x.map byteD)=some (put1 dst (.own true z (x.map byteD))):=appV_nilv g dst z o (by simpa using hx) (by simpa using hl)
theorem awz {es:List D} (h1:es≠[]) {n:Nat} (hn:es.length≤n):b5 es.length n es=[[.sl es]]:=by
 cases es with
 |nil=>exact absurd rfl h1
 | cons x r=>
  rw[List.length_cons,b5,aaz hn,List.drop_of_length_le hn];cases r<;>rfl
theorem qn {es:List D} {n:Int} (h1:1≤n) (h2:n≤1000000000) (h3:es.all D.isCell=true) (h4:es.length≤1000000000):gk [.ptr (.sl es),.ptr (.int .i64 n)]=some (b5 es.length n.toNat es):=if_pos ⟨h1,h2,h3,h4⟩
theorem qm (l:List Int):(l.map (D.int .i64)).all D.isCell=true:=by simp[D.isCell]
theorem oq (es:List D) {n:Int} (h:1≤n):evL cfg n_cu 0 [.d (.sl es),.d (.int .i64 (n))] []=some (.clo n_da [] [.d (.ptr (.sl es)),.d (.ptr (.int .i64 n))],[]):=by
 refine ap (n:=1) ?_;have hx:cfg.ext n_cu=some (xSeqN n_da):=rfl;simp only[evFn,hx,allD,Option.map_some,Option.bind_some,xSeqN];rw[if_pos h];rfl
theorem ax3 (es:List D) {n:Int} (h:1≤n):evL cfg n_cy 0 [.d (.sl es),.d (.int .i64 (n))] []=some (.clo n_db [] [.d (.ptr (.sl es)),.d (.ptr (.int .i64 n))],[]):=by
 refine ap (n:=1) ?_;have hx:cfg.ext n_cy=some (xSeqN n_db):=rfl;simp only[evFn,hx,allD,Option.map_some,Option.bind_some,xSeqN];rw[if_pos h];rfl
theorem wc:cfg.iter n_da=some gk:=rfl
theorem it_bytes:cfg.iter n_db=some gk:=rfl
theorem enc2_ans {sg:Bool} {l:List Int} (h:Fine sg l) (h512:l.length≤512):∃ x:List UInt8,x.length≤2+64*l.length∧evL cfg n_au 0 [.d (i64s l),.d (.bool (sg)),.d (.int .i64 (2))] []=some (.d (.tup [.sl (x.map byteD),.int .i64 0]),[]):=by
 have hb:=jz h yp;have d_a:decide ((l.length:Int)>16384)=false:=by simp<;>omega
 by_cases hz:l=[]
 · subst hz
   refine⟨[],by simp,?_⟩
   rw[o_au];simp only[i64s,List.map_nil] at *;have hc:=wc;have hit:gk [.ptr (.sl []),.ptr (.int .i64 512)]=some []:=rfl;have hs:=oq [] (n:=512) yu;simp(disch:=first|exact yo|fail) only[go_sem,X_au,c_au,hb,hc,hit,hs,List.length_nil,Int.reduceGT,Int.reduceLT,gt_iff_lt,decide_false,ka]
 · obtain⟨x1,p1,p2,p3⟩:=afq (b:=[]) yt h (aa2.2 hz) h512
   obtain⟨x2,q1,q2,q3⟩:=axk h (aa2.2 hz) h512;rw[List.length_nil,Nat.zero_add] at p2;have hc:=wc;have hit:gk [.ptr (.sl (l.map (D.int .i64))),.ptr (.int .i64 512)]=some [[.sl (l.map (D.int .i64))]]:=by
     rw[qn yu yu (qm l) (by simp;omega),awz (by simpa using hz) (by simpa using h512)]
   have hs:=oq (l.map (D.int .i64)) (n:=512) yu;rw[o_au];unfold i64s at *;rw[List.map_nil] at p3;rcases y9 (decide ((x2.length:Int)<x1.length)) with d_c|d_c<;>have p_c:=d_c<;>simp only[zh,zb,zt,zi,ne_eq] at p_c
   · have ha:=a5k q1 yp
     refine⟨x2,by omega,?_⟩
     simp(disch:=first|exact yo|fail) only[go_sem,X_au,c_au,hb,d_a,p3,q3,hit,hc,hs,ha,d_c,ka,yz]
     done
   · have ha:=a5k p1 yp
     refine⟨x1,by omega,?_⟩
     simp(disch:=first|exact yo|fail) only[go_sem,X_au,c_au,hb,d_a,p3,q3,hit,hc,hs,ha,d_c,ka,yz]
     done
set_option maxRecDepth 100000
theorem aj9 {a b:Int} (ha:inI a) (hb:inI b):∃ s ok,inI s∧evL cfg n_cn 0 [.d (.int .i64 (a)),.d (.int .i64 (b))] []=some (.d (.tup [.int .i64 s,.bool ok]),[]):=by
 obtain⟨s,ok,hs,h⟩:=dv hb ha;rw[o_cn];cases ok with
 |false=>refine⟨s,false,hs,?_⟩;simp(disch:=first|exact yo|fail) only[go_sem,X_cn,c_cn,h]
 | true=>
  cases h1:decide (s≥ -128) with
  |false=>refine⟨s,false,hs,?_⟩;simp(disch:=first|exact yo|fail) only[go_sem,X_cn,c_cn,h,h1]
  | true=>
   cases h2:decide (s≤127) with
   |false=>refine⟨s,false,hs,?_⟩;simp(disch:=first|exact yo|fail) only[go_sem,X_cn,c_cn,h,h1,h2]
   |true=>refine⟨s,true,hs,?_⟩;simp(disch:=first|exact yo|fail) only[go_sem,X_cn,c_cn,h,h1,h2]
theorem a5n (l:List Int) (hf:∀ v∈l,inI v) (hl:l.length≤1000000) (s:Int):∀ (q:List Int) (i:Nat),1≤i→i≤l.length→l.drop i=q→
  ∃ n:Nat,1≤n∧n≤l.length∧go X_bh [.c (.loop ajl),.b 0,.c (.seq afy .ret)] ⟨[(0,.d (i64s l)),(4,.d (.int .i64 (s))),(6,.d (.int .i64 ((i:Int))))],[]⟩=some (.d (.tup [.int .i64 (n:Int),.int .i64 s]),[])
 | [],i,h1,hi,hq=>by
  have:=cf hq;have:i=l.length:=yp;subst this;have d_a:decide ((l.length:Int)<l.length)=false:=by simp<;>omega
  refine⟨l.length,h1,y7 _,?_⟩;rw[go_loop];simp(disch:=first|exact yo|fail) only[go_sem,X_bh,i64s,d_a,yz]
 | v::q,i,h1,hi,hq=>by
  obtain⟨g1,h2,h3⟩:=da hq;have e1:(i:Int)-1=((i-1:Nat):Int):=yp;obtain⟨u,hu⟩:∃ u,l[i-1]? =some u:=⟨_,yy yp⟩
  obtain⟨t,ok,ht,hsub⟩:=aj9 (hf u (List.mem_of_getElem? hu)) (hf v (List.mem_of_getElem? h2));have d_a:decide ((i:Int)<l.length)=true:=by simp<;>omega
  cases ok with
  | false=>
   refine⟨i,h1,hi,?_⟩;rw[go_loop];simp(disch:=first|exact yo|fail) only[go_sem,X_bh,i64s,d_a,e1,h2,hu,hsub,yz]
  | true=>
   cases e2:(t !=s) with
   | true=>
    refine⟨i,h1,hi,?_⟩;rw[go_loop];simp(disch:=first|exact yo|fail) only[go_sem,X_bh,i64s,d_a,e1,e2,h2,hu,hsub,yz]
   | false=>
    obtain⟨n,k1,k2,k3⟩:=a5n l hf hl s q (i+1) yp g1 h3;refine⟨n,k1,k2,Eq.trans ?_ k3⟩;rw[go_loop];simp(disch:=first|exact yo|fail) only[go_sem,X_bh,i64s,d_a,e1,e2,h2,hu,hsub,yz,Int.natCast_add]
theorem a5m {l:List Int} (hf:∀ v∈l,inI v) (hl:l.length≤1000000) (h1:1≤l.length):∃ (n:Nat) (s:Int),1≤n∧n≤l.length∧evL cfg n_bh 0 [.d (i64s l)] []=some (.d (.tup [.int .i64 (n:Int),.int .i64 s]),[]):=by
 rw[o_bh]
 match l,hf,hl,h1 with
 | [v],hf,hl,_=>
  refine⟨1,0,y7 _,y7 _,?_⟩;simp(disch:=first|exact yo|fail) only[go_sem,X_bh,c_bh,i64s,Int.reduceLT,decide_true]
  done
 | u::v::q,hf,hl,_=>
  obtain⟨t,ok,ht,hsub⟩:=aj9 (hf u yt) (hf v yt);have d_a:decide ((((u::v::q).length:Nat):Int)<2)=false:=by simp<;>omega
  rw[List.length_cons,List.length_cons] at d_a;cases ok with
  | false=>
   refine⟨1,0,y7 _,by simp,?_⟩
   simp(disch:=first|exact yo|fail) only[go_sem,X_bh,c_bh,i64s,hsub,d_a]
  | true=>
   obtain⟨n,k1,k2,k3⟩:=a5n (u::v::q) hf hl t q 2 yp yt rfl;refine⟨n,t,k1,k2,Eq.trans ?_ k3⟩;have z2:((2:Nat):Int)=2:=rfl;simp(disch:=first|exact yo|fail) only[go_sem,X_bh,c_bh,i64s,hsub,d_a,z2]
theorem xn {b:List UInt8} (hb:b.length≤1000000) {v:Int} (hv:inI v) (sg:Bool):∃ x:List UInt8,x≠[]∧x.length≤b.length+10∧evL cfg n_b7 0 [.d (.sl ((b).map byteD)),.d (.int .i64 (v)),.d (.bool (sg))] []=some (.own false 1 (x.map byteD),[]):=by
 cases sg with
 | true=>
  obtain⟨x,h1,h2,h3⟩:=mn (b:=b) hb (aw4 hv);have hz:=jh hv;refine⟨x,h1,h2,?_⟩;rw[o_b7];simp(disch:=first|exact yo|fail) only[go_sem,X_b7,c_b7,hz,h3]
 | false=>
  obtain⟨n,hn,e⟩:=oh v;obtain⟨x,h1,h2,h3⟩:=mn (b:=b) hb hn;refine⟨x,h1,h2,?_⟩;rw[o_b7];simp(disch:=first|exact yo|fail) only[go_sem,X_b7,c_b7,e,h3]
theorem jw {α:Type} (f:α→D) (n:Nat) (hn:1≤n):∀ (k:Nat) (l:List α),l.length≤k→∃ ps:List (List α),b5 k n (l.map f)=ps.map (fun p=>[.sl (p.map f)])∧(∀ p∈ps,1≤p.length∧p.length≤n∧∀ v∈p,v∈l)∧(ps.map List.length).sum=l.length
 |0,[],_=>⟨[],by simp[b5],by simp,rfl⟩
 |0,x::r,h=>by simp at h
 |k+1,[],_=>⟨[],by simp[b5],by simp,rfl⟩
 | k+1,x::r,h=>by
  obtain⟨ps,h1,h2,h3⟩:=jw f n hn k ((x::r).drop n) (by rw[aat];simp at h ⊢;omega)
  refine⟨(x::r).take n::ps,?_,?_,?_⟩
  · rw[List.map_cons,b5,← List.map_cons,← List.map_take,← List.map_drop,h1]
    rfl
  · intro p hp
    rcases zr.1 hp with rfl|hp
    · exact⟨by rw[aao,List.length_cons];omega,by rw[aao];omega,fun v hv=>aaj hv⟩
    · obtain⟨g1,g2,g3⟩:=h2 p hp
      exact⟨g1,g2,fun v hv=>aai (g3 v hv)⟩
  · rw[List.map_cons,List.sum_cons,h3,aao,aat]
    omega
