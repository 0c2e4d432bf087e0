import Derived.Test.YtkdiccgfbfbjlaaGreatCoH
namespace Go.Proofs.YtkdiccgfbfbjlaaGreat
open Go Go.Ev
set_option maxHeartbeats 4000000
set_option maxRecDepth 100000
theorem ay3 (l:List Int) (hf:∀ v∈l,inI v) (hl:l.length≤1000000) (s:Int):∀ (q:List Int) (i:Nat),1≤i→i≤l.length→l.drop i=q→∀ o:List (Nat×V),o=[]∨o=[(25,.d (.bool (false)))]→
  ∃ n:Nat,1≤n∧n≤l.length∧go X_bl [.c (.loop ae2),.b 0,.c (.seq abx .ret)] ⟨(0,.d (i64s l))::(3,.d (.int .i64 ((i:Int))))::(4,.d (.int .i64 (s)))::o,[]⟩=some (.d (.int .i64 ((n:Int))),[])
 | [],i,h1,hi,hq,o,ho=>by
  have:=fe hq;have:i=l.length:=uw;subst this;have d_a:decide ((l.length:Int)<l.length)=false:=by simp<;>omega
  refine⟨l.length,h1,u9 _,?_⟩;rw[go_loop];rcases ho with rfl|rfl<;>simp(disch:=first|exact uv|fail) only[go_sem,X_bl,i64s,d_a,u3]
 | v::q,i,h1,hi,hq,o,ho=>by
  obtain⟨g1,h2,h3⟩:=gk hq;have e1:(i:Int)-1=((i-1:Nat):Int):=uw;obtain⟨u,hu⟩:∃ u,l[i-1]? =some u:=⟨_,u4 uw⟩
  obtain⟨t,ok,ht,hsub⟩:=dl (hf v (List.mem_of_getElem? h2)) (hf u (List.mem_of_getElem? hu));have d_a:decide ((i:Int)<l.length)=true:=by simp<;>omega
  cases ok with
  | false=>
   refine⟨i,h1,hi,?_⟩;rw[go_loop];rcases ho with rfl|rfl<;>simp(disch:=first|exact uv|fail) only[go_sem,X_bl,i64s,d_a,e1,h2,hu,hsub,u3]
  | true=>
   cases e2:(t !=s) with
   | true=>
    refine⟨i,h1,hi,?_⟩;rw[go_loop];rcases ho with rfl|rfl<;>simp(disch:=first|exact uv|fail) only[go_sem,X_bl,i64s,d_a,e1,e2,h2,hu,hsub,u3]
   | false=>
    obtain⟨n,k1,k2,k3⟩:=ay3 l hf hl s q (i+1) uw g1 h3 [] (.inl rfl);refine⟨n,k1,k2,Eq.trans ?_ k3⟩;rw[go_loop];rcases ho with rfl|rfl<;>simp(disch:=first|exact uv|fail) only[go_sem,X_bl,i64s,d_a,e1,e2,h2,hu,hsub,u3,Int.natCast_add]
theorem even_ans {l:List Int} (hf:∀ v∈l,inI v) (hl:l.length≤1000000) (h1:1≤l.length):∃ n:Nat,1≤n∧n≤l.length∧evL cfg n_bl 0 [.d (i64s l)] []=some (.d (.int .i64 ((n:Int))),[]):=by
 rw[o_bl];have z1:min (1:Int) 2=1:=rfl
 match l,hf,hl,h1 with
 | [v],hf,hl,_=>
  refine⟨1,u9 _,u9 _,?_⟩;simp(disch:=first|exact uv|fail) only[go_sem,X_bl,c_bl,i64s,z1,Int.reduceLT,decide_true]
 | u::v::q,hf,hl,_=>
  obtain⟨t,ok,ht,hsub⟩:=dl (hf v uy) (hf u uy);have e1:min (((u::v::q).length:Nat):Int) 2=2:=by rw[List.length_cons,List.length_cons];omega
  rw[List.length_cons,List.length_cons] at e1;cases ok with
  | false=>
   refine⟨1,u9 _,by simp,?_⟩
   simp(disch:=first|exact uv|fail) only[go_sem,X_bl,c_bl,i64s,hsub,e1,Int.reduceLT,decide_false]
  | true=>
   obtain⟨n,k1,k2,k3⟩:=ay3 (u::v::q) hf hl t q 2 uw uy rfl [(25,.d (.bool (false)))] (.inr rfl);refine⟨n,k1,k2,Eq.trans ?_ k3⟩;have z2:((2:Nat):Int)=2:=rfl;simp(disch:=first|exact uv|fail) only[go_sem,X_bl,c_bl,i64s,hsub,e1,z2,Int.reduceLT,decide_false]
abbrev nothing:V:= .d (.tup [])
def dB (x:List UInt8):D:=match x with
 | []=> .nilS
 |y::r=> .sl ((y::r).map byteD)
theorem ap1:dB []= .nilS:=rfl
theorem dB_ne {x:List UInt8} (h:x≠[]):dB x= .sl (x.map byteD):=by
 cases x with
 |nil=>exact absurd rfl h
 |cons y r=>rfl
theorem Fine.sub {sg:Bool} {l:List Int} (h:Fine sg l) (i n:Nat):Fine sg ((l.take n).drop i):=fun v hv=>h v (wt (ws hv))
abbrev mS (sg:Bool) (l:List Int) (x:List UInt8) (f:Nat):List (Cel×V):=[(⟨0,2,0⟩,.d (i64s l)),(⟨0,3,0⟩,.d (.bool (sg))),(⟨0,5,0⟩,.d (dB x)),(⟨0,6,0⟩,.d (.int .i64 ((f:Int))))]
theorem aau {sg:Bool} {l:List Int} (h:Fine sg l) (h512:l.length≤512) (x:List UInt8) (hx:x.length≤600000) {f t:Nat} (hft:f≤t) (ht:t≤l.length):
   ∃ x':List UInt8,(x'≠[]∨f=t∧x'=x)∧x'.length≤x.length+70*(t-f)∧evL cfg n_b5 1 [.d (.int .i64 ((t:Int))),.ref 0 6 0,.ref 0 5 0,.ref 0 2 0,.ref 0 3 0] (mS sg l x f)=some (nothing,mS sg l x' f):=by
 by_cases hlt:f<t
 · have hlen:((l.take t).drop f).length=t-f:=by rw[wy,xa];omega
   obtain⟨x',hx0,hx1,hr⟩:=abt (b:=x) uw (h.sub f t) (by rw[hlen];omega) (by rw[hlen];omega)
   rw[hlen] at hx1;have d_a:decide ((t:Int)>f)=true:=by simp<;>omega
   refine⟨x',.inl hx0,by omega,?_⟩
   rw[e_b5 1 _ _ rfl rfl];simp only[mS,dB_ne hx0];simp only[i64s,List.map_drop,List.map_take] at hr;by_cases hz:x=[]
   · subst hz
     rw[List.map_nil] at hr;simp(disch:=first|exact uv|fail) only[go_sem,X_b5,c_b5,i64s,ap1,d_a,hr,u3]
   · rw[dB_ne hz]
     simp(disch:=first|exact uv|fail) only[go_sem,X_b5,c_b5,i64s,d_a,hr,u3]
 · refine⟨x,.inr ⟨by omega,rfl⟩,by omega,?_⟩
   have d_a:decide ((t:Int)>f)=false:=by simp<;>omega
   rw[e_b5 1 _ _ rfl rfl];simp only[mS];by_cases hz:x=[]
   · subst hz
     simp(disch:=first|exact uv|fail) only[go_sem,X_b5,c_b5,i64s,ap1,d_a]
   · rw[dB_ne hz]
     simp(disch:=first|exact uv|fail) only[go_sem,X_b5,c_b5,i64s,d_a]
abbrev spE (i:Nat):List (Nat×V):=[(2,.ref 0 2 0),(3,.ref 0 3 0),(5,.ref 0 5 0),(6,.ref 0 6 0),(7,.clo n_b5 [] [.ref 0 6 0,.ref 0 5 0,.ref 0 2 0,.ref 0 3 0]),(8,.d (.int .i64 ((i:Int))))]
theorem abq {sg:Bool} {l:List Int} (h:Fine sg l) (h1:1≤l.length) (h512:l.length≤512):∀ (k i f:Nat) (x:List UInt8),l.length-i≤k→f≤i→i≤l.length→(f=0∨x≠[])→x.length≤70*f→
  ∃ x':List UInt8,x'≠[]∧x'.length≤70*l.length∧go X_aj [.c (.loop ae8),.b 0,.c (.seq acu (.seq act .ret))] ⟨spE i,mS sg l x f⟩=some (.d (.sl ((x').map byteD)),[])
 | k,i,f,x,hk,hfi,hil,hx0,hx=>by
  by_cases hlt:i<l.length
  · cases k with
    |zero=>omega
    |succ k=>
    have d_a:decide ((i:Int)<l.length)=true:=by simp<;>omega
    have et:List.take l.length (l.map (D.int .i64))=l.map (D.int .i64):=List.take_of_length_le uy;have hd:(l.drop i).length=l.length-i:=wy;obtain⟨n,n1,n2,he⟩:=even_ans (l:=l.drop i) (fun v hv=>(h v (ws hv)).1) uw uw
    rw[hd] at n2;simp only[i64s,List.map_drop] at he;rcases vf (decide ((n:Int)<8)) with d_c|d_c<;>have p_c:=d_c<;>simp only[vn,vd,wb,vo,ne_eq] at p_c
    · obtain⟨x',q1,q2,q3⟩:=abq h h1 h512 k (i+1) f x uw uw uw hx0 hx
      refine⟨x',q1,q2,Eq.trans ?_ q3⟩;simp only[mS];rw[go_loop];simp(disch:=first|exact uv|fail) only[go_sem,X_aj,spE,i64s,d_a,d_c,et,he,u3,Int.natCast_add]
    · obtain⟨x1,p1,p2,p3⟩:=aau h h512 x uw hfi hil
      have e1:(i:Int)+n=((i+n:Nat):Int):=uw;have hlen:((l.take (i+n)).drop i).length=n:=by rw[wy,xa];omega
      obtain⟨x2,hx2,hx3,hr⟩:=abt (b:=x1) uw (h.sub i (i+n)) (by rw[hlen];omega) (by rw[hlen];omega)
      rw[hlen] at hx3;obtain⟨x',q1,q2,q3⟩:=abq h h1 h512 k (i+n) (i+n) x2 uw uw uw (.inr hx2) uw;refine⟨x',q1,q2,Eq.trans ?_ q3⟩;simp only[mS,dB_ne hx2] at p3 ⊢;simp only[i64s,List.map_drop,List.map_take] at hr p3;rw[go_loop];by_cases hz:x1=[]
      · subst hz
        rw[List.map_nil] at hr;rw[ap1] at p3;simp(disch:=first|exact uv|fail) only[go_sem,X_aj,spE,i64s,d_a,d_c,et,he,p3,hr,e1,u3]
        done
      · rw[dB_ne hz] at p3
        simp(disch:=first|exact uv|fail) only[go_sem,X_aj,spE,i64s,d_a,d_c,et,he,p3,hr,e1,u3]
        done
  · have:i=l.length:=uw
    subst this;have d_a:decide ((l.length:Int)<l.length)=false:=by simp<;>omega
    obtain⟨x1,p1,p2,p3⟩:=aau h h512 x uw hfi (u9 _);have hx1:x1≠[]:=by
      rcases p1 with p1|⟨p1,rfl⟩
      · exact p1
      · rcases hx0 with rfl|hx0
        · omega
        · exact hx0
    refine⟨x1,hx1,by omega,?_⟩
    simp only[mS,dB_ne hx1,i64s] at p3 ⊢;rw[go_loop];simp(disch:=first|exact uv|fail) only[go_sem,X_aj,spE,i64s,d_a,p3,u3]
    done
theorem asm {sg:Bool} {l:List Int} (h:Fine sg l) (h1:1≤l.length) (h512:l.length≤512):∃ x:List UInt8,x≠[]∧x.length≤70*l.length∧evL cfg n_aj 0 [.d (i64s l),.d (.bool (sg))] []=some (.d (.sl ((x).map byteD)),[]):=by
 obtain⟨x,q1,q2,q3⟩:=abq h h1 h512 l.length 0 0 [] uw (u9 _) (wq _) (.inl rfl) uy;refine⟨x,q1,q2,Eq.trans ?_ q3⟩;rw[o_aj];simp(disch:=first|exact uv|fail) only[go_sem,X_aj,c_aj,mS,spE,i64s,ap1,Int.natCast_zero,u3]
set_option maxRecDepth 100000
theorem afc {x:List UInt8} (hx:x≠[]) (hl:x.length≤1000000000) (g:Get) (dst:Option Nat) (z:Nat) (o:IOpd):appV g dst z o (.d .nilS) (x.map byteD)=some (put1 dst (.own true z (x.map byteD))):=appV_nilv g dst z o (by simpa using hx) (by simpa using hl)
theorem ar1 {es:List D} (h1:es≠[]) {n:Nat} (hn:es.length≤n):bw es.length n es=[[.sl es]]:=by
 cases es with
 |nil=>exact absurd rfl h1
 | cons x r=>
  rw[List.length_cons,bw,List.take_of_length_le hn,List.drop_of_length_le hn];cases r<;>rfl
theorem kg {es:List D} {n:Int} (h1:1≤n) (h2:n≤1000000000) (h3:es.all D.isCell=true) (h4:es.length≤1000000000):ep [.ptr (.sl es),.ptr (.int .i64 n)]=some (bw es.length n.toNat es):=if_pos ⟨h1,h2,h3,h4⟩
theorem nx (l:List Int):(l.map (D.int .i64)).all D.isCell=true:=by simp[D.isCell]
theorem mn (es:List D) {n:Int} (h:1≤n):evL cfg n_cr 0 [.d (.sl es),.d (.int .i64 (n))] []=some (.clo n_da [] [.d (.ptr (.sl es)),.d (.ptr (.int .i64 n))],[]):=by
 refine a9 (n:=1) ?_;have hx:cfg.ext n_cr=some (xSeqN n_da):=rfl;simp only[evFn,hx,allD,Option.map_some,Option.bind_some,xSeqN];rw[if_pos h];rfl
theorem m6 (es:List D) {n:Int} (h:1≤n):evL cfg n_cu 0 [.d (.sl es),.d (.int .i64 (n))] []=some (.clo n_c9 [] [.d (.ptr (.sl es)),.d (.ptr (.int .i64 n))],[]):=by
 refine a9 (n:=1) ?_;have hx:cfg.ext n_cu=some (xSeqN n_c9):=rfl;simp only[evFn,hx,allD,Option.map_some,Option.bind_some,xSeqN];rw[if_pos h];rfl
theorem sy:cfg.iter n_da=some ep:=rfl
theorem s7:cfg.iter n_c9=some ep:=rfl
theorem enc2_ans {sg:Bool} {l:List Int} (h:Fine sg l) (h512:l.length≤512):∃ x:List UInt8,x.length≤2+64*l.length∧evL cfg n_aq 0 [.d (i64s l),.d (.bool (sg)),.d (.int .i64 (2))] []=some (.d (.tup [.sl (x.map byteD),.int .i64 0]),[]):=by
 have hb:=jf h uw;have d_a:decide ((l.length:Int)>16384)=false:=by simp<;>omega
 by_cases hz:l=[]
 · subst hz
   refine⟨[],by simp,?_⟩
   rw[o_aq];simp only[i64s,List.map_nil] at *;have hc:=sy;have hit:ep [.ptr (.sl []),.ptr (.int .i64 512)]=some []:=rfl;have hs:=mn [] (n:=512) uz;simp(disch:=first|exact uv|fail) only[go_sem,X_aq,c_aq,hb,hc,hit,hs,List.length_nil,Int.reduceGT,Int.reduceLT,gt_iff_lt,decide_false,gw]
 · obtain⟨x1,p1,p2,p3⟩:=abt (b:=[]) uy h (xj.2 hz) h512
   obtain⟨x2,q1,q2,q3⟩:=asm h (xj.2 hz) h512;rw[List.length_nil,Nat.zero_add] at p2;have hc:=sy;have hit:ep [.ptr (.sl (l.map (D.int .i64))),.ptr (.int .i64 512)]=some [[.sl (l.map (D.int .i64))]]:=by
     rw[kg uz uz (nx l) (by simp;omega),ar1 (by simpa using hz) (by simpa using h512)]
   have hs:=mn (l.map (D.int .i64)) (n:=512) uz;rw[o_aq];unfold i64s at *;rw[List.map_nil] at p3;rcases vf (decide ((x2.length:Int)<x1.length)) with d_c|d_c<;>have p_c:=d_c<;>simp only[vn,vd,wb,vo,ne_eq] at p_c
   · have ha:=afc q1 uw
     refine⟨x2,by omega,?_⟩
     simp(disch:=first|exact uv|fail) only[go_sem,X_aq,c_aq,hb,d_a,p3,q3,hit,hc,hs,ha,d_c,gw,u3]
     done
   · have ha:=afc p1 uw
     refine⟨x1,by omega,?_⟩
     simp(disch:=first|exact uv|fail) only[go_sem,X_aq,c_aq,hb,d_a,p3,q3,hit,hc,hs,ha,d_c,gw,u3]
     done
set_option maxRecDepth 100000
theorem afo {a b:Int} (ha:inI a) (hb:inI b):∃ s ok,inI s∧evL cfg n_ck 0 [.d (.int .i64 (a)),.d (.int .i64 (b))] []=some (.d (.tup [.int .i64 s,.bool ok]),[]):=by
 obtain⟨s,ok,hs,h⟩:=dl hb ha;rw[o_ck];cases ok with
 |false=>refine⟨s,false,hs,?_⟩;simp(disch:=first|exact uv|fail) only[go_sem,X_ck,c_ck,h]
 | true=>
  cases h1:decide (s≥ -128) with
  |false=>refine⟨s,false,hs,?_⟩;simp(disch:=first|exact uv|fail) only[go_sem,X_ck,c_ck,h,h1]
  | true=>
   cases h2:decide (s≤127) with
   |false=>refine⟨s,false,hs,?_⟩;simp(disch:=first|exact uv|fail) only[go_sem,X_ck,c_ck,h,h1,h2]
   |true=>refine⟨s,true,hs,?_⟩;simp(disch:=first|exact uv|fail) only[go_sem,X_ck,c_ck,h,h1,h2]
theorem a0k (l:List Int) (hf:∀ v∈l,inI v) (hl:l.length≤1000000) (s:Int):∀ (q:List Int) (i:Nat),1≤i→i≤l.length→l.drop i=q→
  ∃ n:Nat,1≤n∧n≤l.length∧go X_bc [.c (.loop ae3),.b 0,.c (.seq abz .ret)] ⟨[(0,.d (i64s l)),(4,.d (.int .i64 (s))),(6,.d (.int .i64 ((i:Int))))],[]⟩=some (.d (.tup [.int .i64 (n:Int),.int .i64 s]),[])
 | [],i,h1,hi,hq=>by
  have:=fe hq;have:i=l.length:=uw;subst this;have d_a:decide ((l.length:Int)<l.length)=false:=by simp<;>omega
  refine⟨l.length,h1,u9 _,?_⟩;rw[go_loop];simp(disch:=first|exact uv|fail) only[go_sem,X_bc,i64s,d_a,u3]
 | v::q,i,h1,hi,hq=>by
  obtain⟨g1,h2,h3⟩:=gk hq;have e1:(i:Int)-1=((i-1:Nat):Int):=uw;obtain⟨u,hu⟩:∃ u,l[i-1]? =some u:=⟨_,u4 uw⟩
  obtain⟨t,ok,ht,hsub⟩:=afo (hf u (List.mem_of_getElem? hu)) (hf v (List.mem_of_getElem? h2));have d_a:decide ((i:Int)<l.length)=true:=by simp<;>omega
  cases ok with
  | false=>
   refine⟨i,h1,hi,?_⟩;rw[go_loop];simp(disch:=first|exact uv|fail) only[go_sem,X_bc,i64s,d_a,e1,h2,hu,hsub,u3]
  | true=>
   cases e2:(t !=s) with
   | true=>
    refine⟨i,h1,hi,?_⟩;rw[go_loop];simp(disch:=first|exact uv|fail) only[go_sem,X_bc,i64s,d_a,e1,e2,h2,hu,hsub,u3]
   | false=>
    obtain⟨n,k1,k2,k3⟩:=a0k l hf hl s q (i+1) uw g1 h3;refine⟨n,k1,k2,Eq.trans ?_ k3⟩;rw[go_loop];simp(disch:=first|exact uv|fail) only[go_sem,X_bc,i64s,d_a,e1,e2,h2,hu,hsub,u3,Int.natCast_add]
theorem a0j {l:List Int} (hf:∀ v∈l,inI v) (hl:l.length≤1000000) (h1:1≤l.length):∃ (n:Nat) (s:Int),1≤n∧n≤l.length∧evL cfg n_bc 0 [.d (i64s l)] []=some (.d (.tup [.int .i64 (n:Int),.int .i64 s]),[]):=by
 rw[o_bc]
 match l,hf,hl,h1 with
 | [v],hf,hl,_=>
  refine⟨1,0,u9 _,u9 _,?_⟩;simp(disch:=first|exact uv|fail) only[go_sem,X_bc,c_bc,i64s,Int.reduceLT,decide_true]
  done
 | u::v::q,hf,hl,_=>
  obtain⟨t,ok,ht,hsub⟩:=afo (hf u uy) (hf v uy);have d_a:decide ((((u::v::q).length:Nat):Int)<2)=false:=by simp<;>omega
  rw[List.length_cons,List.length_cons] at d_a;cases ok with
  | false=>
   refine⟨1,0,u9 _,by simp,?_⟩
   simp(disch:=first|exact uv|fail) only[go_sem,X_bc,c_bc,i64s,hsub,d_a]
  | true=>
   obtain⟨n,k1,k2,k3⟩:=a0k (u::v::q) hf hl t q 2 uw uy rfl;refine⟨n,t,k1,k2,Eq.trans ?_ k3⟩;have z2:((2:Nat):Int)=2:=rfl;simp(disch:=first|exact uv|fail) only[go_sem,X_bc,c_bc,i64s,hsub,d_a,z2]
theorem t5 {b:List UInt8} (hb:b.length≤1000000) {v:Int} (hv:inI v) (sg:Bool):∃ x:List UInt8,x≠[]∧x.length≤b.length+10∧evL cfg n_b9 0 [.d (.sl ((b).map byteD)),.d (.int .i64 (v)),.d (.bool (sg))] []=some (.own false 1 (x.map byteD),[]):=by
 cases sg with
 | true=>
  obtain⟨x,h1,h2,h3⟩:=k6 (b:=b) hb (ar6 hv);have hz:=iu hv;refine⟨x,h1,h2,?_⟩;rw[o_b9];simp(disch:=first|exact uv|fail) only[go_sem,X_b9,c_b9,hz,h3]
 | false=>
  obtain⟨n,hn,e⟩:=ml v;obtain⟨x,h1,h2,h3⟩:=k6 (b:=b) hb hn;refine⟨x,h1,h2,?_⟩;rw[o_b9];simp(disch:=first|exact uv|fail) only[go_sem,X_b9,c_b9,e,h3]
theorem fu {α:Type} (f:α→D) (n:Nat) (hn:1≤n):∀ (k:Nat) (l:List α),l.length≤k→∃ ps:List (List α),bw k n (l.map f)=ps.map (fun p=>[.sl (p.map f)])∧(∀ p∈ps,1≤p.length∧p.length≤n∧∀ v∈p,v∈l)∧(ps.map List.length).sum=l.length
 |0,[],_=>⟨[],by simp[bw],by simp,rfl⟩
 |0,x::r,h=>by simp at h
 |k+1,[],_=>⟨[],by simp[bw],by simp,rfl⟩
 | k+1,x::r,h=>by
  obtain⟨ps,h1,h2,h3⟩:=fu f n hn k ((x::r).drop n) (by rw[wy];simp at h ⊢;omega)
  refine⟨(x::r).take n::ps,?_,?_,?_⟩
  · rw[List.map_cons,bw,← List.map_cons,← List.map_take,← List.map_drop,h1]
    rfl
  · intro p hp
    rcases wc.1 hp with rfl|hp
    · exact⟨by rw[xa,List.length_cons];omega,by rw[xa];omega,fun v hv=>wt hv⟩
    · obtain⟨g1,g2,g3⟩:=h2 p hp
      exact⟨g1,g2,fun v hv=>ws (g3 v hv)⟩
  · rw[List.map_cons,List.sum_cons,h3,xa,wy]
    omega
