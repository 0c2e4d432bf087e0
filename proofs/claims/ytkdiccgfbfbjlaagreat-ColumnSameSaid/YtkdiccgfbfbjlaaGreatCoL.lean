import Derived.Test.YtkdiccgfbfbjlaaGreatCoH
set_option linter.unusedSectionVars false
namespace Go.Proofs.YtkdiccgfbfbjlaaGreat
open Go Go.Ev
variable [Sh]
set_option maxHeartbeats 4000000
set_option maxRecDepth 100000
theorem bmg (l:List Int) (hf:∀ v∈l,inI v) (hl:l.length≤1000000) (s:Int):∀ (q:List Int) (i:Nat),1≤i→i≤l.length→l.drop i=q→∀ o:List (Nat×V),o=[]∨o=[(25,.d (.bool (false)))]→
  ∃ n:Nat,1≤n∧n≤l.length∧go HM [.c (.loop ara),.b 0,.c (.seq al0 .ret)] ⟨(0,.d (AR l))::(3,.d (.int .i64 ((i:Int))))::(4,.d (.int .i64 (s)))::o,[]⟩=some (.d (.int .i64 ((n:Int))),[])
 | [],i,h1,hi,hq,o,ho=>by
  have:=aq hq;have:i=l.length:=abu;subst this;have d_a:decide ((l.length:Int)<l.length)=false:=by simp<;>omega
  refine⟨l.length,h1,ab5 _,?_⟩;rw[go_loop];rcases ho with rfl|rfl<;>simp(disch:=first|exact abt|fail) only[go_sem,HM,AR,d_a,aby]
 | v::q,i,h1,hi,hq,o,ho=>by
  obtain⟨g1,h2,h3⟩:=ba hq;have e1:(i:Int)-1=((i-1:Nat):Int):=abu;obtain⟨u,hu⟩:∃ u,l[i-1]? =some u:=⟨_,ab0 abu⟩
  obtain⟨t,ok,ht,hsub⟩:=d7 (hf v (List.mem_of_getElem? h2)) (hf u (List.mem_of_getElem? hu));have d_a:decide ((i:Int)<l.length)=true:=by simp<;>omega
  cases ok with
  | false=>
   refine⟨i,h1,hi,?_⟩;rw[go_loop];rcases ho with rfl|rfl<;>simp(disch:=first|exact abt|fail) only[go_sem,HM,AR,d_a,e1,h2,hu,hsub,aby]
  | true=>
   cases e2:(t !=s) with
   | true=>
    refine⟨i,h1,hi,?_⟩;rw[go_loop];rcases ho with rfl|rfl<;>simp(disch:=first|exact abt|fail) only[go_sem,HM,AR,d_a,e1,e2,h2,hu,hsub,aby]
   | false=>
    obtain⟨n,k1,k2,k3⟩:=bmg l hf hl s q (i+1) abu g1 h3 [] (.inl rfl);refine⟨n,k1,k2,Eq.trans ?_ k3⟩;rw[go_loop];rcases ho with rfl|rfl<;>simp(disch:=first|exact abt|fail) only[go_sem,HM,AR,d_a,e1,e2,h2,hu,hsub,aby,Int.natCast_add]
theorem U7 {l:List Int} (hf:∀ v∈l,inI v) (hl:l.length≤1000000) (h1:1≤l.length):∃ n:Nat,1≤n∧n≤l.length∧evL cfg RO 0 [.d (AR l)] []=some (.d (.int .i64 ((n:Int))),[]):=by
 rw[o_cw];have z1:min (1:Int) 2=1:=rfl
 match l,hf,hl,h1 with
 | [v],hf,hl,_=>
  refine⟨1,ab5 _,ab5 _,?_⟩;simp(disch:=first|exact abt|fail) only[go_sem,HM,R7,AR,z1,Int.reduceLT,decide_true]
 | u::v::q,hf,hl,_=>
  obtain⟨t,ok,ht,hsub⟩:=d7 (hf v abw) (hf u abw);have e1:min (((u::v::q).length:Nat):Int) 2=2:=by rw[List.length_cons,List.length_cons];omega
  rw[List.length_cons,List.length_cons] at e1;cases ok with
  | false=>
   refine⟨1,ab5 _,by simp,?_⟩
   simp(disch:=first|exact abt|fail) only[go_sem,HM,R7,AR,hsub,e1,Int.reduceLT,decide_false]
  | true=>
   obtain⟨n,k1,k2,k3⟩:=bmg (u::v::q) hf hl t q 2 abu abw rfl [(25,.d (.bool (false)))] (.inr rfl);refine⟨n,k1,k2,Eq.trans ?_ k3⟩;have z2:((2:Nat):Int)=2:=rfl;simp(disch:=first|exact abt|fail) only[go_sem,HM,R7,AR,hsub,e1,z2,Int.reduceLT,decide_false]
abbrev nothing:V:= .d (.tup [])
def dB (x:List UInt8):D:=match x with
 | []=> .AL
 |y::r=> .sl ((y::r).map AD)
theorem a95:dB []= .AL:=rfl
theorem Gs {x:List UInt8} (h:x≠[]):dB x= .sl (x.map AD):=by
 cases x with
 |nil=>exact absurd rfl h
 |cons y r=>rfl
theorem DI.sub {sg:Bool} {l:List Int} (h:DI sg l) (i n:Nat):DI sg ((l.take n).drop i):=fun v hv=>h v (ade (adc hv))
abbrev mS (sg:Bool) (l:List Int) (x:List UInt8) (f:Nat):List (Cel×V):=[(⟨0,2,0⟩,.d (AR l)),(⟨0,3,0⟩,.d (.bool (sg))),(⟨0,5,0⟩,.d (dB x)),(⟨0,6,0⟩,.d (.int .i64 ((f:Int))))]
theorem aku {sg:Bool} {l:List Int} (h:DI sg l) (h512:l.length≤512) (x:List UInt8) (hx:x.length≤600000) {f t:Nat} (hft:f≤t) (ht:t≤l.length):
   ∃ x':List UInt8,(x'≠[]∨f=t∧x'=x)∧x'.length≤x.length+70*(t-f)∧evL cfg Q7 1 [.d (.int .i64 ((t:Int))),.ref 0 6 0,.ref 0 5 0,.ref 0 2 0,.ref 0 3 0] (mS sg l x f)=some (nothing,mS sg l x' f):=by
 by_cases hlt:f<t
 · have hlen:((l.take t).drop f).length=t-f:=by rw[ado,adp];omega
   obtain⟨x',hx0,hx1,hr⟩:=alv (b:=x) abu (h.sub f t) (by rw[hlen];omega) (by rw[hlen];omega)
   rw[hlen] at hx1;have d_a:decide ((t:Int)>f)=true:=by simp<;>omega
   refine⟨x',.inl hx0,by omega,?_⟩
   rw[e_dz 1 _ _ rfl rfl];simp only[mS,Gs hx0];simp only[AR,List.map_drop,List.map_take] at hr;by_cases hz:x=[]
   · subst hz
     rw[List.map_nil] at hr;simp(disch:=first|exact abt|fail) only[go_sem,ZP,R6,AR,a95,d_a,hr,aby]
   · rw[Gs hz]
     simp(disch:=first|exact abt|fail) only[go_sem,ZP,R6,AR,d_a,hr,aby]
 · refine⟨x,.inr ⟨by omega,rfl⟩,by omega,?_⟩
   have d_a:decide ((t:Int)>f)=false:=by simp<;>omega
   rw[e_dz 1 _ _ rfl rfl];simp only[mS];by_cases hz:x=[]
   · subst hz
     simp(disch:=first|exact abt|fail) only[go_sem,ZP,R6,AR,a95,d_a]
   · rw[Gs hz]
     simp(disch:=first|exact abt|fail) only[go_sem,ZP,R6,AR,d_a]
abbrev spE (i:Nat):List (Nat×V):=[(2,.ref 0 2 0),(3,.ref 0 3 0),(5,.ref 0 5 0),(6,.ref 0 6 0),(7,.clo Q7 [] [.ref 0 6 0,.ref 0 5 0,.ref 0 2 0,.ref 0 3 0]),(8,.d (.int .i64 ((i:Int))))]
theorem alq {sg:Bool} {l:List Int} (h:DI sg l) (h1:1≤l.length) (h512:l.length≤512):∀ (k i f:Nat) (x:List UInt8),l.length-i≤k→f≤i→i≤l.length→(f=0∨x≠[])→x.length≤70*f→
  ∃ x':List UInt8,x'≠[]∧x'.length≤70*l.length∧go QN [.c (.loop arm),.b 0,.c (.seq ang (.seq anf .ret))] ⟨spE i,mS sg l x f⟩=some (.d (.sl ((x').map AD)),[])
 | k,i,f,x,hk,hfi,hil,hx0,hx=>by
  by_cases hlt:i<l.length
  · cases k with
    |zero=>omega
    |succ k=>
    have d_a:decide ((i:Int)<l.length)=true:=by simp<;>omega
    have et:List.take l.length (l.map (D.int .i64))=l.map (D.int .i64):=adw abw;have hd:(l.drop i).length=l.length-i:=ado;obtain⟨n,n1,n2,he⟩:=U7 (l:=l.drop i) (fun v hv=>(h v (adc hv)).1) abu abu
    rw[hd] at n2;simp only[AR,List.map_drop] at he;rcases ab2 (decide ((n:Int)<8)) with d_c|d_c<;>have p_c:=d_c<;>simp only[ab4,ab3,acg,ab6,ne_eq] at p_c
    · obtain⟨x',q1,q2,q3⟩:=alq h h1 h512 k (i+1) f x abu abu abu hx0 hx
      refine⟨x',q1,q2,Eq.trans ?_ q3⟩;simp only[mS];rw[go_loop];simp(disch:=first|exact abt|fail) only[go_sem,QN,spE,AR,d_a,d_c,et,he,aby,Int.natCast_add]
    · obtain⟨x1,p1,p2,p3⟩:=aku h h512 x abu hfi hil
      have e1:(i:Int)+n=((i+n:Nat):Int):=abu;have hlen:((l.take (i+n)).drop i).length=n:=by rw[ado,adp];omega
      obtain⟨x2,hx2,hx3,hr⟩:=alv (b:=x1) abu (h.sub i (i+n)) (by rw[hlen];omega) (by rw[hlen];omega)
      rw[hlen] at hx3;obtain⟨x',q1,q2,q3⟩:=alq h h1 h512 k (i+n) (i+n) x2 abu abu abu (.inr hx2) abu;refine⟨x',q1,q2,Eq.trans ?_ q3⟩;simp only[mS,Gs hx2] at p3 ⊢;simp only[AR,List.map_drop,List.map_take] at hr p3;rw[go_loop];by_cases hz:x1=[]
      · subst hz
        rw[List.map_nil] at hr;rw[a95] at p3;simp(disch:=first|exact abt|fail) only[go_sem,QN,spE,AR,d_a,d_c,et,he,p3,hr,e1,aby]
        done
      · rw[Gs hz] at p3
        simp(disch:=first|exact abt|fail) only[go_sem,QN,spE,AR,d_a,d_c,et,he,p3,hr,e1,aby]
        done
  · have:i=l.length:=abu
    subst this;have d_a:decide ((l.length:Int)<l.length)=false:=by simp<;>omega
    obtain⟨x1,p1,p2,p3⟩:=aku h h512 x abu hfi (ab5 _);have hx1:x1≠[]:=by
      rcases p1 with p1|⟨p1,rfl⟩
      · exact p1
      · rcases hx0 with rfl|hx0
        · omega
        · exact hx0
    refine⟨x1,hx1,by omega,?_⟩
    simp only[mS,Gs hx1,AR] at p3 ⊢;rw[go_loop];simp(disch:=first|exact abt|fail) only[go_sem,QN,spE,AR,d_a,p3,aby]
    done
theorem bcx {sg:Bool} {l:List Int} (h:DI sg l) (h1:1≤l.length) (h512:l.length≤512):∃ x:List UInt8,x≠[]∧x.length≤70*l.length∧evL cfg Rj 0 [.d (AR l),.d (.bool (sg))] []=some (.d (.sl ((x).map AD)),[]):=by
 obtain⟨x,q1,q2,q3⟩:=alq h h1 h512 l.length 0 0 [] abu (ab5 _) (aco _) (.inl rfl) abw;refine⟨x,q1,q2,Eq.trans ?_ q3⟩;rw[o_ax];simp(disch:=first|exact abt|fail) only[go_sem,QN,Y6,mS,spE,AR,a95,Int.natCast_zero,aby]
end Go.Proofs.YtkdiccgfbfbjlaaGreat
namespace Go.Proofs.YtkdiccgfbfbjlaaGreat
open Go Go.Ev
variable [Sh]
set_option maxHeartbeats 4000000
set_option maxRecDepth 100000
theorem arw {x:List UInt8} (hx:x≠[]) (hl:x.length≤1000000000) (g:Get) (dst:Option Nat) (z:Nat) (o:AB):Ge g dst z o (.d .AL) (x.map AD)=some (AG dst (.own true z (x.map AD))):=SK g dst z o (by simpa using hx) (by simpa using hl)
theorem nn {es:List D} {n:Int} (h1:1≤n) (h2:n≤1000000000) (h3:es.all D.AP=true) (h4:es.length≤1000000000):jj [.ptr (.sl es),.ptr (.int .i64 n)]=some (cw es.length n.toNat es):=if_pos ⟨h1,h2,h3,h4⟩
theorem sw (l:List Int):(l.map (D.int .i64)).all D.AP=true:=by simp[D.AP]
theorem xn (es:List D) {n:Int} (h:1≤n):evL cfg Pk 0 [.d (.sl es),.d (.int .i64 (n))] []=some (.clo Hn [] [.d (.ptr (.sl es)),.d (.ptr (.int .i64 n))],[]):=by
 refine ak (n:=1) ?_;have hx:cfg.ext Pk=some (Ej Hn):=rfl;simp only[BU,hx,B6,Option.map_some,Option.bind_some,Ej];rw[if_pos h];rfl
theorem rl (es:List D) {n:Int} (h:1≤n):evL cfg Pj 0 [.d (.sl es),.d (.int .i64 (n))] []=some (.clo Hm [] [.d (.ptr (.sl es)),.d (.ptr (.int .i64 n))],[]):=by
 refine ak (n:=1) ?_;have hx:cfg.ext Pj=some (Ej Hm):=rfl;simp only[BU,hx,B6,Option.map_some,Option.bind_some,Ej];rw[if_pos h];rfl
theorem aqb:cfg.iter Hn=some jj:=rfl
theorem zh:cfg.iter Hm=some jj:=rfl
theorem eb {α:Type} (f:α→D) (n:Nat) (hn:1≤n):∀ (k:Nat) (l:List α),l.length≤k→∃ ps:List (List α),cw k n (l.map f)=ps.map (fun p=>[.sl (p.map f)])∧(∀ p∈ps,1≤p.length∧p.length≤n∧∀ v∈p,v∈l)∧(ps.map List.length).sum=l.length
 |0,[],_=>⟨[],by simp[cw],by simp,rfl⟩
 |0,x::r,h=>by simp at h
 |k+1,[],_=>⟨[],by simp[cw],by simp,rfl⟩
 | k+1,x::r,h=>by
  obtain⟨ps,h1,h2,h3⟩:=eb f n hn k ((x::r).drop n) (by rw[ado];simp at h ⊢;omega)
  refine⟨(x::r).take n::ps,?_,?_,?_⟩
  · rw[List.map_cons,cw,← List.map_cons,← List.map_take,← List.map_drop,h1]
    rfl
  · intro p hp
    rcases ach.1 hp with rfl|hp
    · exact⟨by rw[adp,List.length_cons];omega,by rw[adp];omega,fun v hv=>ade hv⟩
    · obtain⟨g1,g2,g3⟩:=h2 p hp
      exact⟨g1,g2,fun v hv=>adc (g3 v hv)⟩
  · rw[List.map_cons,List.sum_cons,h3,adp,ado]
    omega
abbrev ieE (L:List Int):List (Nat×V):=[(4,.ref 0 4 0),(8,.ref 0 8 0),(37,.clo Hn [] [.d (.ptr (.sl (L.map (D.int .i64)))),.d (.ptr (.int .i64 512))])]
theorem blx {sg:Bool} (L:List Int) (K:List Kf):∀ (ps:List (List Int)) (x:List UInt8),(∀ p∈ps,1≤p.length∧p.length≤512∧DI sg p)→x.length+66*(ps.map List.length).sum≤100000000→
  ∃ x':List UInt8,x'.length≤x.length+66*(ps.map List.length).sum∧goE (fx cfg 0 [.t 6,.t 7]) [38] aae aad (ieE L) K (ps.map fun p=>[.sl (p.map (D.int .i64))]) [(⟨0,4,0⟩,.d (.bool (sg))),(⟨0,8,0⟩,Bw x)]=go (fx cfg 0 [.t 6,.t 7]) K ⟨ieE L,[(⟨0,4,0⟩,.d (.bool (sg))),(⟨0,8,0⟩,Bw x')]⟩
 | [],x,hp,hx=>⟨x,by simp,rfl⟩
 | p::ps,x,hp,hx=>by
  obtain⟨h1,h2,hf⟩:=hp p abw;rw[List.map_cons,List.sum_cons] at hx;obtain⟨x1,p1,p2,p3⟩:=alv (b:=[]) abw hf h1 h2;obtain⟨x2,q1,q2,q3⟩:=bcx hf h1 h2;rw[List.length_nil,Nat.zero_add] at p2;unfold AR at *;rw[List.map_nil] at p3;have key:∀ y:List UInt8,y≠[]→y.length≤2+64*p.length→∃ x':List UInt8,x'.length≤x.length+66*((p::ps).map List.length).sum∧goE (fx cfg 0 [.t 6,.t 7]) [38] aae aad (ieE L) K (ps.map fun p=>[.sl (p.map (D.int .i64))]) [(⟨0,4,0⟩,.d (.bool (sg))),(⟨0,8,0⟩,Bw (x++y))]=go (fx cfg 0 [.t 6,.t 7]) K ⟨ieE L,[(⟨0,4,0⟩,.d (.bool (sg))),(⟨0,8,0⟩,Bw x')]⟩:=fun y hy hyl=>by
    obtain⟨x',hl,q⟩:=blx L K ps (x++y) (fun q hq=>hp q (by simp[hq])) (by simp;omega)
    exact⟨x',by rw[aci] at hl;rw[List.map_cons,List.sum_cons];omega,q⟩
  rcases ab2 (decide ((x2.length:Int)<x1.length)) with d_c|d_c<;>have p_c:=d_c<;>simp only[ab4,ab3,acg,ab6,ne_eq] at p_c
  · obtain⟨x',hl,q⟩:=key x2 q1 abu
    have Ai:x++x2≠[]:=by simp[q1]
    refine⟨x',hl,Eq.trans ?_ q⟩;rw[List.map_cons,ln];simp only[ieE,ac Ai,List.map_append];by_cases hz:x=[]
    · subst hz
      rw[af];have ha:=arw q1 abu;simp(disch:=first|exact abt|fail) only[go_sem,HU,p3,q3,d_c,ha,List.map_nil,List.nil_append,aby]
    · rw[ac hz]
      simp(disch:=first|exact abt|fail) only[go_sem,HU,p3,q3,d_c,aby]
  · obtain⟨x',hl,q⟩:=key x1 p1 abu
    have Ai:x++x1≠[]:=by simp[p1]
    refine⟨x',hl,Eq.trans ?_ q⟩;rw[List.map_cons,ln];simp only[ieE,ac Ai,List.map_append];by_cases hz:x=[]
    · subst hz
      rw[af];have ha:=arw p1 abu;simp(disch:=first|exact abt|fail) only[go_sem,HU,p3,q3,d_c,ha,List.map_nil,List.nil_append,aby]
    · rw[ac hz]
      simp(disch:=first|exact abt|fail) only[go_sem,HU,p3,q3,d_c,aby]
theorem VN {sg:Bool} {l:List Int} (h:DI sg l) (hN:l.length≤16384):∃ x:List UInt8,x.length≤66*l.length∧evL cfg Pt 0 [.d (AR l),.d (.bool (sg)),.d (.int .i64 (2))] []=some (.d (.tup [.sl (x.map AD),.int .i64 0]),[]):=by
 have hb:=ku h abu;have d_a:decide ((l.length:Int)>16384)=false:=by simp<;>omega
 obtain⟨ps,h1,h2,h3⟩:=eb (D.int .i64) 512 abu l.length l (ab5 _);have hc:=aqb;have hit:=nn (es:=l.map (D.int .i64)) (n:=512) abx abx (sw l) (by simp;omega)
 rw[aby,show(512:Int).toNat=512 from rfl,h1] at hit
 have hs:=xn (l.map (D.int .i64)) (n:=512) abx;obtain⟨x',hl,q⟩:=blx (sg:=sg) l [.b 1,.c (.seq amy .ret)] ps [] (fun p hp=>⟨(h2 p hp).1,(h2 p hp).2.1,fun v hv=>h v ((h2 p hp).2.2 v hv)⟩) (by simp;omega)
 refine⟨x',by simp at hl;omega,?_⟩
 simp only[ieE,af] at q;rw[o_bb];unfold AR at *;simp(disch:=first|exact abt|fail) only[go_sem,HU,Vv,hb,d_a,hit,hc,hs,aby]
 refine q.trans ?_;by_cases hz:x'=[]
 · subst hz
   simp(disch:=first|exact abt|fail) only[go_sem,HU,af,List.map_nil]
 · rw[ac hz]
   simp(disch:=first|exact abt|fail) only[go_sem,HU]
end Go.Proofs.YtkdiccgfbfbjlaaGreat
namespace Go.Proofs.YtkdiccgfbfbjlaaGreat
open Go Go.Ev
variable [Sh]
set_option maxHeartbeats 4000000
set_option maxRecDepth 100000
theorem ar6 {a b:Int} (ha:inI a) (hb:inI b):∃ s ok,inI s∧evL cfg Pl 0 [.d (.int .i64 (a)),.d (.int .i64 (b))] []=some (.d (.tup [.int .i64 s,.bool ok]),[]):=by
 obtain⟨s,ok,hs,h⟩:=d7 hb ha;rw[o_fg];cases ok with
 |false=>refine⟨s,false,hs,?_⟩;simp(disch:=first|exact abt|fail) only[go_sem,WI,QA,h]
 | true=>
  cases h1:decide (s≥ -128) with
  |false=>refine⟨s,false,hs,?_⟩;simp(disch:=first|exact abt|fail) only[go_sem,WI,QA,h,h1]
  | true=>
   cases h2:decide (s≤127) with
   |false=>refine⟨s,false,hs,?_⟩;simp(disch:=first|exact abt|fail) only[go_sem,WI,QA,h,h1,h2]
   |true=>refine⟨s,true,hs,?_⟩;simp(disch:=first|exact abt|fail) only[go_sem,WI,QA,h,h1,h2]
theorem bof (l:List Int) (hf:∀ v∈l,inI v) (hl:l.length≤1000000) (s:Int):∀ (q:List Int) (i:Nat),1≤i→i≤l.length→l.drop i=q→
  ∃ n:Nat,1≤n∧n≤l.length∧go HP [.c (.loop arb),.b 0,.c (.seq al2 .ret)] ⟨[(0,.d (AR l)),(4,.d (.int .i64 (s))),(6,.d (.int .i64 ((i:Int))))],[]⟩=some (.d (.tup [.int .i64 (n:Int),.int .i64 s]),[])
 | [],i,h1,hi,hq=>by
  have:=aq hq;have:i=l.length:=abu;subst this;have d_a:decide ((l.length:Int)<l.length)=false:=by simp<;>omega
  refine⟨l.length,h1,ab5 _,?_⟩;rw[go_loop];simp(disch:=first|exact abt|fail) only[go_sem,HP,AR,d_a,aby]
 | v::q,i,h1,hi,hq=>by
  obtain⟨g1,h2,h3⟩:=ba hq;have e1:(i:Int)-1=((i-1:Nat):Int):=abu;obtain⟨u,hu⟩:∃ u,l[i-1]? =some u:=⟨_,ab0 abu⟩
  obtain⟨t,ok,ht,hsub⟩:=ar6 (hf u (List.mem_of_getElem? hu)) (hf v (List.mem_of_getElem? h2));have d_a:decide ((i:Int)<l.length)=true:=by simp<;>omega
  cases ok with
  | false=>
   refine⟨i,h1,hi,?_⟩;rw[go_loop];simp(disch:=first|exact abt|fail) only[go_sem,HP,AR,d_a,e1,h2,hu,hsub,aby]
  | true=>
   cases e2:(t !=s) with
   | true=>
    refine⟨i,h1,hi,?_⟩;rw[go_loop];simp(disch:=first|exact abt|fail) only[go_sem,HP,AR,d_a,e1,e2,h2,hu,hsub,aby]
   | false=>
    obtain⟨n,k1,k2,k3⟩:=bof l hf hl s q (i+1) abu g1 h3;refine⟨n,k1,k2,Eq.trans ?_ k3⟩;rw[go_loop];simp(disch:=first|exact abt|fail) only[go_sem,HP,AR,d_a,e1,e2,h2,hu,hsub,aby,Int.natCast_add]
theorem boe {l:List Int} (hf:∀ v∈l,inI v) (hl:l.length≤1000000) (h1:1≤l.length):∃ (n:Nat) (s:Int),1≤n∧n≤l.length∧evL cfg RS 0 [.d (AR l)] []=some (.d (.tup [.int .i64 (n:Int),.int .i64 s]),[]):=by
 rw[o_cn]
 match l,hf,hl,h1 with
 | [v],hf,hl,_=>
  refine⟨1,0,ab5 _,ab5 _,?_⟩;simp(disch:=first|exact abt|fail) only[go_sem,HP,R8,AR,Int.reduceLT,decide_true]
  done
 | u::v::q,hf,hl,_=>
  obtain⟨t,ok,ht,hsub⟩:=ar6 (hf u abw) (hf v abw);have d_a:decide ((((u::v::q).length:Nat):Int)<2)=false:=by simp<;>omega
  rw[List.length_cons,List.length_cons] at d_a;cases ok with
  | false=>
   refine⟨1,0,ab5 _,by simp,?_⟩
   simp(disch:=first|exact abt|fail) only[go_sem,HP,R8,AR,hsub,d_a]
  | true=>
   obtain⟨n,k1,k2,k3⟩:=bof (u::v::q) hf hl t q 2 abu abw rfl;refine⟨n,t,k1,k2,Eq.trans ?_ k3⟩;have z2:((2:Nat):Int)=2:=rfl;simp(disch:=first|exact abt|fail) only[go_sem,HP,R8,AR,hsub,d_a,z2]
theorem aay {b:List UInt8} (hb:b.length≤1000000) {v:Int} (hv:inI v) (sg:Bool):∃ x:List UInt8,x≠[]∧x.length≤b.length+10∧evL cfg Pn 0 [.d (.sl ((b).map AD)),.d (.int .i64 (v)),.d (.bool (sg))] []=some (.own false 1 (x.map AD),[]):=by
 cases sg with
 | true=>
  obtain⟨x,h1,h2,h3⟩:=oh (b:=b) hb (ary hv);have hz:=gw hv;refine⟨x,h1,h2,?_⟩;rw[o_ed];simp(disch:=first|exact abt|fail) only[go_sem,nZ,Vl,hz,h3]
 | false=>
  obtain⟨n,hn,e⟩:=ql v;obtain⟨x,h1,h2,h3⟩:=oh (b:=b) hb hn;refine⟨x,h1,h2,?_⟩;rw[o_ed];simp(disch:=first|exact abt|fail) only[go_sem,nZ,Vl,e,h3]
end Go.Proofs.YtkdiccgfbfbjlaaGreat
namespace Go.Proofs.YtkdiccgfbfbjlaaGreat
open Go Go.Ev
variable [Sh]
set_option maxHeartbeats 4000000
set_option maxRecDepth 100000
def Qv (x:List Int):V:=match x with
 | []=> .d .AL
 |y::r=> .own false 1 ((y::r).map (D.int .i64))
theorem ep:Qv []= .d .AL:=rfl
theorem yw {x:List Int} (h:x≠[]):Qv x= .own false 1 (x.map (D.int .i64)):=by
 cases x with
 |nil=>exact absurd rfl h
 |cons y r=>rfl
abbrev mR (sg:Bool) (x:List UInt8) (L:List Int):List (Cel×V):=[(⟨0,3,0⟩,.d (.bool (sg))),(⟨0,6,0⟩,Bw x),(⟨0,7,0⟩,Qv L)]
abbrev mQ (sg:Bool) (x:List UInt8) (L:List Int):List (Cel×V):=[(⟨0,3,0⟩,.d (.bool (sg))),(⟨0,6,0⟩,Bw x),(⟨0,7,0⟩,.d (AR L))]
abbrev rfE (p:List Int) (i:Nat):List (Nat×V):=[(1,.ref 0 6 0),(2,.ref 0 3 0),(16,.d (AR p)),(17,.d (.int .i64 ((p.length:Int)))),(18,.d (.int .i64 ((i:Int))))]
theorem Zp {sg:Bool} (L p:List Int) (hf:∀ v∈p,inI v) (hl:p.length≤128):∀ (q:List Int) (i:Nat) (x:List UInt8),p.drop i=q→i≤p.length→x≠[]→x.length+10*q.length≤900000→
  ∃ x':List UInt8,x'≠[]∧x'.length≤x.length+10*q.length∧∀ (k:Ex→St→Ans) (K:List Kf),go ⟨cfg,2,k⟩ (.c (.loop bai):: .b 2::K) ⟨rfE p i,mQ sg x L⟩=go ⟨cfg,2,k⟩ K ⟨rfE p p.length++[(19,.d (.bool (false)))],mQ sg x' L⟩
 | [],i,x,hq,hi,hx,hxl=>by
  have:=aq hq;have:i=p.length:=abu;subst this;have d_a:decide ((p.length:Int)<p.length)=false:=by simp<;>omega
  refine⟨x,hx,by omega,fun k K=> ?_⟩
  simp only[mQ,ac hx];rw[go_loop];simp(disch:=first|exact abt|fail) only[go_sem,F7,rfE,AR,d_a,List.cons_append,List.nil_append]
 | v::q,i,x,hq,hi,hx,hxl=>by
  obtain⟨g1,h2,h3⟩:=ba hq;have d_a:decide ((i:Int)<p.length)=true:=by simp<;>omega
  rw[List.length_cons] at hxl;obtain⟨x1,p1,p2,p3⟩:=aay (b:=x) abu (hf v (List.mem_of_getElem? h2)) sg;obtain⟨x',q1,q2,q3⟩:=Zp L p hf hl q (i+1) x1 h3 g1 p1 abu;refine⟨x',q1,by rw[List.length_cons];omega,fun k K=>Eq.trans ?_ (q3 k K)⟩
  simp only[mQ,ac hx,ac p1];rw[go_loop];simp(disch:=first|exact abt|fail) only[go_sem,F7,rfE,AR,d_a,h2,p3,Int.natCast_add]
abbrev rgE (L:List Int):List (Nat×V):=[(0,.ref 0 7 0),(1,.ref 0 6 0),(2,.ref 0 3 0),(7,.clo Hn [] [.d (.ptr (.sl (L.map (D.int .i64)))),.d (.ptr (.int .i64 128))])]
theorem bdi {sg:Bool} (L:List Int) (K:List Kf):∀ (ps:List (List Int)) (x:List UInt8),(∀ p∈ps,1≤p.length∧p.length≤128∧∀ v∈p,inI v)→x.length+11*(ps.map List.length).sum≤800000→
  ∃ x':List UInt8,(x'≠[]∨ps=[]∧x'=x)∧x'.length≤x.length+11*(ps.map List.length).sum∧goE (fx cfg 1 []) [8] bn7 arf (rgE L) K (ps.map fun p=>[.sl (p.map (D.int .i64))]) (mQ sg x L)=go (fx cfg 1 []) K ⟨rgE L,mQ sg x' L⟩
 | [],x,hp,hx=>⟨x,.inr ⟨rfl,rfl⟩,by omega,rfl⟩
 | p::ps,x,hp,hx=>by
  obtain⟨h1,h2,h3⟩:=hp p abw;rw[List.map_cons,List.sum_cons] at hx;obtain⟨x1,p1,p2,p3⟩:=Zp (sg:=sg) L p h3 h2 p 0 (x++[wU (256-p.length)]) rfl (aco _) abw (by simp;omega)
  rw[aci,List.length_singleton] at p2;obtain⟨x',q1,q2,q3⟩:=bdi L K ps x1 (fun q hq=>hp q (by simp[hq])) abu
  have hx':x'≠[]:=by
    rcases q1 with q1|⟨_,rfl⟩
    · exact q1
    · exact p1
  refine⟨x',.inl hx',by rw[List.map_cons,List.sum_cons];omega,?_⟩
  rw[List.map_cons,ln];simp only[mQ,rfE,rgE,Int.natCast_zero,ac p1,ac (show x++[wU (256-p.length)]≠[] by simp),AR,List.map_append,List.map_cons,List.map_nil] at p3 q3 ⊢
  by_cases hz:x=[]
  · subst hz
    rw[List.map_nil,List.nil_append] at p3;rw[af];simp(disch:=first|exact abt|fail) only[go_sem,F7,wB]
    refine(p3 _ [.b 1]).trans ?_;simp(disch:=first|exact abt|fail) only[go_sem,F7,List.cons_append,List.nil_append]
    exact q3
  · rw[ac hz]
    simp(disch:=first|exact abt|fail) only[go_sem,F7,wB]
    refine(p3 _ [.b 1]).trans ?_;simp(disch:=first|exact abt|fail) only[go_sem,F7,List.cons_append,List.nil_append]
    exact q3
theorem ba0 {sg:Bool} (x:List UInt8) (L:List Int) (hL:L≠[]) (hf:∀ v∈L,inI v) (hl:L.length≤20000) (hx:x.length≤400000):
   ∃ x':List UInt8,x'≠[]∧x'.length≤x.length+11*L.length∧evL cfg Ht 1 [.ref 0 7 0,.ref 0 6 0,.ref 0 3 0] (mR sg x L)=some (.d (.tup []),mR sg x' []):=by
 obtain⟨ps,h1,h2,h3⟩:=eb (D.int .i64) 128 abu L.length L (ab5 _);have hs:=xn (L.map (D.int .i64)) (n:=128) abx;have hit:=nn (es:=L.map (D.int .i64)) (n:=128) abx abx (sw L) (by simp;omega)
 have hc:=aqb;rw[aby,show(128:Int).toNat=128 from rfl,h1] at hit
 have Ai:ps≠[]:=by
   intro e;rw[e] at h3;exact hL (acw h3.symm)
 obtain⟨x',q1,q2,q3⟩:=bdi (sg:=sg) L [.b 0,.c amq] ps x (fun p hp=>⟨(h2 p hp).1,(h2 p hp).2.1,fun v hv=>hf v ((h2 p hp).2.2 v hv)⟩) abu
 rw[h3] at q2;have hx':x'≠[]:=by
   rcases q1 with q1|⟨q1,_⟩
   · exact q1
   · exact absurd q1 Ai
 refine⟨x',hx',q2,?_⟩;simp only[mQ,rgE,AR,ac hx'] at q3;simp only[mR,yw hL,ac hx',ep];rw[e_bn 1 _ _ rfl rfl];by_cases hz:x=[]
 · subst hz
   rw[af] at q3 ⊢;simp(disch:=first|exact abt|fail) only[go_sem,F7,SB,hs,hit,hc]
   refine q3.trans ?_;simp(disch:=first|exact abt|fail) only[go_sem,F7]
 · rw[ac hz] at q3 ⊢
   simp(disch:=first|exact abt|fail) only[go_sem,F7,SB,hs,hit,hc]
   refine q3.trans ?_;simp(disch:=first|exact abt|fail) only[go_sem,F7]
