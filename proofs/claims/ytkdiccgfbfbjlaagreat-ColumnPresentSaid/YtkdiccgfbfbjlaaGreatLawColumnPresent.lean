import Derived.Test.YtkdiccgfbfbjlaaGreatCoU
import Derived.KernelRfl
namespace Go.Proofs.YtkdiccgfbfbjlaaGreat
open Go Go.Ev
set_option maxHeartbeats 4000000
set_option maxRecDepth 100000
def Aok (d:Nat) (ks:List Nat) (A:List (Cel×V)):Prop:=∀ p∈A,p.1.d=d∧p.1.k ∉ ks∧∃ x,p.2= .d x
section
variable {d:Nat} {ks:List Nat} {A:List (Cel×V)} (h:Aok d ks A)
include h
theorem lkN (k o:Nat) (hk:k∈ks) (r:List (Cel×V)):lk (A++r) ⟨d,k,o⟩=lk r ⟨d,k,o⟩:=by
 induction A with
 |nil=>rfl
 | cons p A ih=>
  obtain⟨_,h1,_⟩:=h p uy;obtain⟨c,v⟩:=p;rw[List.cons_append,lk,if_neg (fun e=>by rw[e] at h1;exact h1 hk)]
  exact ih fun q hq=>h q (by simp[hq])
theorem stN (k o:Nat) (hk:k∈ks) (v:V) (r:List (Cel×V)):st (A++r) ⟨d,k,o⟩ v=A++st r ⟨d,k,o⟩ v:=by
 induction A with
 |nil=>rfl
 | cons p A ih=>
  obtain⟨_,h1,_⟩:=h p uy;obtain⟨c,u⟩:=p;rw[List.cons_append,st,if_neg (fun e=>by rw[e] at h1;exact h1 hk),ih fun q hq=>h q (by simp[hq])]
  rfl
theorem as5 (e:Nat) (r:List (Cel×V)):settleM e (A++r)=A++settleM e r:=by
 induction A with
 |nil=>rfl
 | cons p A ih=>
  obtain⟨_,_,x,h2⟩:=h p uy;obtain⟨c,u⟩:=p;simp only at h2;subst h2;rw[List.cons_append,settleM,ih fun q hq=>h q (by simp[hq])]
  rfl
theorem leaveN (e:Nat) (he:d<e) (r:List (Cel×V)):leaveM e (A++r)=A++leaveM e r:=by
 induction A with
 |nil=>rfl
 | cons p A ih=>
  obtain⟨h1,_,x,h2⟩:=h p uy;obtain⟨c,u⟩:=p;simp only at h1 h2;subst h2;rw[List.cons_append,leaveM,if_pos uw,ih fun q hq=>h q (by simp[hq])]
  rfl
theorem cutN (e:Nat) (he:d≤e) (r:List (Cel×V)):cutMem e (A++r)=A++cutMem e r:=by
 induction A with
 |nil=>rfl
 | cons p A ih=>
  obtain⟨h1,_,x,h2⟩:=h p uy;obtain⟨c,u⟩:=p;simp only at h1;rw[List.cons_append,cutMem,if_pos uw,ih fun q hq=>h q (by simp[hq])]
  rfl
theorem allN (e:Nat) (r:List (Cel×V)):(A++r).all (fun p=>p.2.upTo e)=r.all (fun p=>p.2.upTo e):=by
 induction A with
 |nil=>rfl
 | cons p A ih=>
  obtain⟨_,_,x,h2⟩:=h p uy;obtain⟨c,u⟩:=p;simp only at h2;subst h2;rw[List.cons_append,List.all_cons,ih fun q hq=>h q (by simp[hq])]
  rfl
end
structure Op where
 co:Int
 ch:Int
 ve:Int
 sh:Int
 ro:Int
 st:Int
def Op.d (o:Op):D:=optD o.co o.ch o.ve o.sh o.ro o.st
def OpOk (o:Op):Prop:=(o.co=0∨o.co=4)∧64≤o.ch∧o.ch≤65536∧(o.ve=1∨o.ve=2)
def smD (p:Int×List UInt8):D:= .agg [.int .i64 p.1,.int .i64 1,.sl (p.2.map byteD)]
def ownS (L:List (Int×List UInt8)):V:=match L with
 | []=> .d .nilS
 |y::r=> .own false 3 ((y::r).map smD)
theorem sk:ownS []= .d .nilS:=rfl
theorem iq {L:List (Int×List UInt8)} (h:L≠[]):ownS L= .own false 3 (L.map smD):=by
 cases L with
 |nil=>exact absurd rfl h
 |cons y r=>rfl
abbrev wB26 (o:Op) (ek:Int) (L:List (Int×List UInt8)):List (Cel×V):=
 [(⟨0,26,0⟩,.d (.int .i64 (1))),(⟨0,26,1⟩,.d (.int .i64 (o.co))),(⟨0,26,2⟩,.d (.int .i64 (o.ch))),(⟨0,26,3⟩,.d (.int .i64 (o.ve))),(⟨0,26,4⟩,.d (.int .i64 (o.sh))),(⟨0,26,5⟩,.d (.int .i64 (o.ro))),(⟨0,26,6⟩,.d (.int .i64 (o.st))),(⟨0,26,7⟩,.d (.int .i64 (ek))),(⟨0,26,8⟩,.d (.int .i64 (0))),(⟨0,26,9⟩,ownS L),(⟨0,26,10⟩,.d (.int .i64 (0)))]
section
variable {A:List (Cel×V)} (hA:Aok 0 [26] A)
include hA
theorem ad0 (dp:Nat) {o:Op} (ho:OpOk o) (ek:Int) (L:List (Int×List UInt8)) (hL:L.length≤10) (k:Int) {b:List UInt8} (hb:b.length≤60000):
   ∃ x:List UInt8,evL cfg n_bn (dp+1) [.ref 0 26 0,.d (.int .i64 (k)),.d (.sl ((b).map byteD))] (A++wB26 o ek L)=some (.d (.tup []),A++wB26 o ek (L++[(k,x)])):=by
 obtain⟨c1,c2,c3,c4⟩:=ho;obtain⟨x,h⟩:=azm (b:=b) hb c1 uw c3;have z1:=fun o=>lkN hA 26 o uy
 have z2:=fun o=>stN hA 26 o uy
 have z3:=as5 hA;have z4:=leaveN hA (dp+1) (Nat.zero_lt_succ _);have d_a:decide ((b.length:Int)>262144)=false:=by simp<;>omega
 refine⟨x,?_⟩;rw[e_bn (dp+1) _ _ rfl rfl];simp only[wB26,iq (show L++[(k,x)]≠[] by simp),List.map_append,List.map_cons,List.map_nil]
 by_cases hz:L=[]
 · subst hz
   rw[sk];simp(disch:=first|exact uv|fail) only[go_sem,X_bn,c_bn,h,z1,z2,z3,z4,d_a,Int.reduceBNe,smD,u3,List.map_nil,List.nil_append]
   done
 · rw[iq hz]
   simp(disch:=first|exact uv|fail) only[go_sem,X_bn,c_bn,h,z1,z2,z3,z4,d_a,Int.reduceBNe,smD,u3]
   done
theorem mq (dp:Nat) {o:Op} (ho:OpOk o) (ek:Int) (L:List (Int×List UInt8)) (hL:L.length≤10) (k:Int) {sg:Bool} {l:List Int} (h:Fine sg l) (h512:l.length≤512):
   ∃ ek' x,evL cfg n_bk (dp+1) [.ref 0 26 0,.d (.int .i64 (k)),.d (i64s l),.d (.bool (sg))] (A++wB26 o ek L)=some (.d (.tup []),A++wB26 o ek' (L++[(k,x)])):=by
 obtain⟨b,b1,b2⟩:=enc_ans h h512 ho.2.2.2;have z1:=fun o=>lkN hA 26 o uy
 have z2:=fun o=>stN hA 26 o uy
 have z3:=as5 hA;have z4:=leaveN hA (dp+1) (Nat.zero_lt_succ _);have zc:=cutN hA (dp+1) (wq _);have za:=allN hA;rcases ho.2.2.2 with hv|hv
 · obtain⟨x,hp⟩:=ad0 hA (dp+1) ho ek L hL k (b:=b) uw
   refine⟨ek,x,?_⟩;rw[e_bk (dp+1) _ _ rfl rfl];unfold i64s at *;simp only[wB26,hv] at hp b2 ⊢;by_cases hz:L=[]
   · subst hz
     rw[sk] at hp ⊢;rw[iq (show([]:List (Int×List UInt8))++[(k,x)]≠[] by simp)] at hp ⊢
     simp(disch:=first|exact uv|fail) only[go_sem,X_bk,c_bk,b2,hp,z1,z2,z3,z4,zc,za,Int.reduceBNe,Int.reduceBEq]
     done
   · rw[iq hz] at hp ⊢
     rw[iq (show L++[(k,x)]≠[] by simp)] at hp ⊢
     simp(disch:=first|exact uv|fail) only[go_sem,X_bk,c_bk,b2,hp,z1,z2,z3,z4,zc,za,Int.reduceBNe,Int.reduceBEq]
     done
 · obtain⟨x,hp⟩:=ad0 hA (dp+1) ho (orI .i64 ek 2) L hL k (b:=b) uw
   refine⟨orI .i64 ek 2,x,?_⟩;rw[e_bk (dp+1) _ _ rfl rfl];unfold i64s at *;simp only[wB26,hv] at hp b2 ⊢;by_cases hz:L=[]
   · subst hz
     rw[sk] at hp ⊢;rw[iq (show([]:List (Int×List UInt8))++[(k,x)]≠[] by simp)] at hp ⊢
     simp(disch:=first|exact uv|fail) only[go_sem,X_bk,c_bk,b2,hp,z1,z2,z3,z4,zc,za,Int.reduceBNe,Int.reduceBEq]
     done
   · rw[iq hz] at hp ⊢
     rw[iq (show L++[(k,x)]≠[] by simp)] at hp ⊢
     simp(disch:=first|exact uv|fail) only[go_sem,X_bk,c_bk,b2,hp,z1,z2,z3,z4,zc,za,Int.reduceBNe,Int.reduceBEq]
     done
end
end Go.Proofs.YtkdiccgfbfbjlaaGreat
namespace Go.Proofs.YtkdiccgfbfbjlaaGreat
open Go Go.Ev
set_option maxHeartbeats 8000000
set_option maxRecDepth 100000
def nodT:D:= .agg [.int .i64 9,.sl [],.sl [],.int .i64 0,.int .i64 0,.int .i64 0,.int .i64 0,.int .i64 2]
abbrev mA (h:List Bool) (a:List Int) (o:Op):List (Cel×V):=[(⟨0,4,0⟩,.d (.int .i64 (9))),(⟨0,4,1⟩,.d (.sl [])),(⟨0,4,2⟩,.d (.sl [])),(⟨0,4,3⟩,.d (.int .i64 (0))),(⟨0,4,4⟩,.d (.int .i64 (0))),(⟨0,4,5⟩,.d (.int .i64 (0))),(⟨0,4,6⟩,.d (.int .i64 (0))),(⟨0,4,7⟩,.d (.int .i64 (2))),(⟨0,6,0⟩,.d (ba h)),(⟨0,6,1⟩,.d (i64s a)),(⟨0,6,2⟩,.d (i64s a)),(⟨0,6,3⟩,.d (.sl [])),(⟨0,6,4⟩,.d (.sl [])),(⟨0,7,0⟩,.d (.int .i64 (o.co))),(⟨0,7,1⟩,.d (.int .i64 (o.ch))),(⟨0,7,2⟩,.d (.int .i64 (o.ve))),(⟨0,7,3⟩,.d (.int .i64 (o.sh))),(⟨0,7,4⟩,.d (.int .i64 (o.ro))),(⟨0,7,5⟩,.d (.int .i64 (o.st))),(⟨0,8,0⟩,.d (.int .i64 (0))),(⟨0,8,1⟩,.d (.int .i64 (0)))]
theorem mA_ok (h:List Bool) (a:List Int) (o:Op):Aok 0 [26] (mA h a o):=by
 intro p hp;simp only[mA,wc,xc,or_false] at hp;rcases hp with rfl|rfl|rfl|rfl|rfl|rfl|rfl|rfl|rfl|rfl|rfl|rfl|rfl|rfl|rfl|rfl|rfl|rfl|rfl|rfl|rfl<;>exact⟨rfl,by simp,_,rfl⟩
theorem aqh {o:Op} (ho:OpOk o) (hck:evL cfg n_bd 0 [.d o.d] []=some (.d (.int .i64 (0)),[])) (h:List Bool) (hl:h.length≤200) (a:List Int) (hal:a.length≤200) (ha:∀ v∈a,0≤v∧v<200) (hn:h.all id=true):
  ∃ (e0:Int) (y1 y2:List UInt8),evL cfg n_ac 0 [.d nodT,.d (.int .i64 (1)),.d (colD h a a),.d o.d] []=some (.d (.tup [.agg [.int .i64 e0,.int .i64 0],.sl [smD (1,y1),smD (5,y2)],.int .i64 0]),[]):=by
 have hh:=ayp h uw a a;obtain⟨x1,l1,f1,p1⟩:=qk (l:=a) uw;obtain⟨x2,l2,f2,p2⟩:=aa5 (l:=a) uw ha;rw[o_ac];rw[hn] at hh;obtain⟨e1,y1,q1⟩:=mq (mA_ok h a o) 0 ho 0 [] uy 1 f1 uw;obtain⟨e2,y2,q2⟩:=mq (mA_ok h a o) 0 ho e1 [(1,y1)] uy 5 f2 uw;refine⟨e2,y1,y2,?_⟩;simp only[mA,wB26,ownS,List.cons_append,List.nil_append,i64s,smD,List.map_cons,List.map_nil] at q1 q2;simp only[colD,i64s,nodT,Op.d,optD] at hh hck p1 p2 ⊢;simp(disch:=first|exact uv|fail) only[go_sem,X_ac,c_ac,hck,hh,p1,p2,q1,q2,Int.reduceBEq,Int.reduceBNe,smD]
theorem aqg {o:Op} (ho:OpOk o) (hck:evL cfg n_bd 0 [.d o.d] []=some (.d (.int .i64 (0)),[])) (h:List Bool) (hl:h.length≤200) (a:List Int) (hal:a.length≤200) (ha:∀ v∈a,0≤v∧v<200) (hn:h.all id=false):
  ∃ (e0:Int) (y0 y1 y2:List UInt8),evL cfg n_ac 0 [.d nodT,.d (.int .i64 (1)),.d (colD h a a),.d o.d] []=some (.d (.tup [.agg [.int .i64 e0,.int .i64 0],.sl [smD (0,y0),smD (1,y1),smD (5,y2)],.int .i64 0]),[]):=by
 have hh:=ayp h uw a a;obtain⟨x1,l1,f1,p1⟩:=qk (l:=a) uw;obtain⟨x2,l2,f2,p2⟩:=aa5 (l:=a) uw ha;rw[o_ac];rw[hn] at hh;obtain⟨fb,k1,k2⟩:=ayy (l:=h) uw;obtain⟨y0,q0⟩:=ad0 (mA_ok h a o) 0 ho 0 [] uy 0 (b:=fb) uw;obtain⟨e1,y1,q1⟩:=mq (mA_ok h a o) 0 ho 0 [(0,y0)] uy 1 f1 uw;obtain⟨e2,y2,q2⟩:=mq (mA_ok h a o) 0 ho e1 [(0,y0),(1,y1)] uy 5 f2 uw;refine⟨e2,y0,y1,y2,?_⟩;simp only[mA,wB26,ownS,List.cons_append,List.nil_append,i64s,smD,List.map_cons,List.map_nil] at q0 q1 q2;simp only[colD,i64s,nodT,Op.d,optD] at hh hck p1 p2 ⊢;simp(disch:=first|exact uv|fail) only[go_sem,X_ac,c_ac,hck,hh,k2,p1,p2,q0,q1,q2,Int.reduceBEq,Int.reduceBNe,smD]
end Go.Proofs.YtkdiccgfbfbjlaaGreat
namespace Go.Proofs.YtkdiccgfbfbjlaaGreat
open Go Go.Ev
set_option maxHeartbeats 8000000
set_option maxRecDepth 100000
theorem known_ok:evL cfg n_dc 0 [] []=some (.d (.bool (true)),[]):=by
 refine a9 (n:=1) ?_;have hx:cfg.ext n_dc=some t0:=rfl;simp only[evFn,hx,allD,Option.map_some,Option.bind_some,t0]
abbrev i0:D:= .int .i64 0
def typT:D:= .agg [.int .i64 12,.sl [.str [97]],.sl [.agg [.int .i64 9,.sl [],.sl [],i0,i0,i0]],i0,i0,i0]
def nod0:D:= .agg [.int .i64 12,.sl [.int .i64 1],.sl [.str [97]],i0,i0,i0,.int .i64 (-1),.int .i64 1]
theorem flat_two:evL cfg n_dh 0 [.d typT] []=some (.d (.sl [nod0,nodT]),[]):=a9 (n:=40) ux
abbrev lwM (o:Op) (h:List Bool) (a:List Int):List (Cel×V):=[(⟨0,3,0⟩,.d (.int .i64 (o.co))),(⟨0,3,1⟩,.d (.int .i64 (o.ch))),(⟨0,3,2⟩,.d (.int .i64 (o.ve))),(⟨0,3,3⟩,.d (.int .i64 (o.sh))),(⟨0,3,4⟩,.d (.int .i64 (o.ro))),(⟨0,3,5⟩,.d (.int .i64 (o.st))),
 (⟨0,6,0⟩,.d (ba h)),(⟨0,6,1⟩,ownI a),(⟨0,6,2⟩,ownI a),(⟨0,6,3⟩,.d .nilS),(⟨0,6,4⟩,.d .nilS)]
abbrev lwE (h:List Bool) (nl:Bool) (i:Nat):List (Nat×V):=[(0,.d (ba h)),(3,.ref 0 3 0),(5,.d (.sl [nod0,nodT])),(6,.ref 0 6 0),(7,.d (.bool (nl))),(8,.d (.int .i64 ((i:Int))))]
theorem ad7 (o:Op) (h:List Bool) (hl:h.length≤200) (K:List Kf):∀ (q:List Bool) (i:Nat) (a:List Int) (nl:Bool),h.drop i=q→i≤h.length→a.length≤i→(∀ v∈a,0≤v∧v<200)→
  ∃ a':List Int,a'.length≤200∧(∀ v∈a',0≤v∧v<200)∧go X_aa (.c (.loop afa):: .b 0::K) ⟨lwE h nl i,lwM o h a⟩=go X_aa K ⟨lwE h (nl|| !q.all id) h.length++[(36,.d (.bool (false)))],lwM o h a'⟩
 | [],i,a,nl,hq,hi,hal,ha=>by
  have:=fe hq;have:i=h.length:=uw;subst this;have d_c:decide ((h.length:Int)<h.length)=false:=by simp<;>omega
  refine⟨a,by omega,ha,?_⟩
  rw[go_loop];simp only[List.all_nil,Bool.not_true,Bool.or_false];by_cases hz:a=[]
  · subst hz
    simp only[lwM,bl];simp(disch:=first|exact uv|fail) only[go_sem,X_aa,lwE,ba,d_c,u3,List.cons_append,List.nil_append]
  · simp only[lwM,fz hz]
    simp(disch:=first|exact uv|fail) only[go_sem,X_aa,lwE,ba,d_c,u3,List.cons_append,List.nil_append]
 | v::q,i,a,nl,hq,hi,hal,ha=>by
  obtain⟨h1,h2,h3⟩:=gk hq;have d_c:decide ((i:Int)<h.length)=true:=by simp<;>omega
  cases v with
  | false=>
    obtain⟨a',q1,q2,q3⟩:=ad7 o h hl K q (i+1) a true h3 h1 uw ha;refine⟨a',q1,q2,Eq.trans ?_ (q3.trans ?_)⟩
    · rw[go_loop]
      by_cases hz:a=[]
      · subst hz
        simp only[lwM,bl];cases nl<;>simp(disch:=first|exact uv|fail) only[go_sem,X_aa,lwE,ba,d_c,h2,u3,Int.natCast_add]
      · simp only[lwM,fz hz]
        cases nl<;>simp(disch:=first|exact uv|fail) only[go_sem,X_aa,lwE,ba,d_c,h2,u3,Int.natCast_add]
    · simp
  | true=>
    obtain⟨a',q1,q2,q3⟩:=ad7 o h hl K q (i+1) (a++[(i:Int)]) nl h3 h1 (by simp;omega) (fun z hz=>by
      rcases w8.1 hz with hz|hz
      · exact ha z hz
      · rw[wx] at hz;subst hz;omega)
    refine⟨a',q1,q2,Eq.trans ?_ (q3.trans ?_)⟩
    · rw[go_loop]
      simp only[lwM,fz (show a++[(i:Int)]≠[] by simp),List.map_append,List.map_cons,List.map_nil]
      by_cases hz:a=[]
      · subst hz
        simp only[bl];cases nl<;>simp(disch:=first|exact uv|fail) only[go_sem,X_aa,lwE,ba,d_c,h2,u3,Int.natCast_add,List.map_nil,List.nil_append]
      · simp only[fz hz]
        cases nl<;>simp(disch:=first|exact uv|fail) only[go_sem,X_aa,lwE,ba,d_c,h2,u3,Int.natCast_add]
    · simp
end Go.Proofs.YtkdiccgfbfbjlaaGreat
namespace Go.Proofs.YtkdiccgfbfbjlaaGreat
open Go Go.Ev
set_option maxHeartbeats 8000000
set_option maxRecDepth 100000
theorem can8:List.map D.can (List.take 8 [D.int .i64 9,.sl [],.sl [],.int .i64 0,.int .i64 0,.int .i64 0,.int .i64 0,.int .i64 2])=[D.int .i64 9,.sl [],.sl [],.int .i64 0,.int .i64 0,.int .i64 0,.int .i64 0,.int .i64 2]:=rfl
theorem mj (h:List Bool) (hl:h.length<2 ^ 63) (o:Op):evL cfg n_aa 0 [.d (ba h),.d o.d] []=some (.d (.bool (true)),[]):=by
 obtain⟨e,hck,hok⟩:=azn o.co o.ch o.ve o.sh o.ro o.st;have hk:=known_ok;rw[o_aa];rcases vf (decide ((h.length:Int)>200)) with d_a|d_a<;>have p_a:=d_a<;>simp only[vn,vd,wb,vo,ne_eq] at p_a
 · unfold optD at hck
   simp(disch:=first|exact uv|fail) only[go_sem,X_aa,c_aa,hk,Op.d,optD,ba,d_a,u3]
 · cases c:(e !=0) with
   | true=>
    unfold optD at hck;simp(disch:=first|exact uv|fail) only[go_sem,X_aa,c_aa,hk,hck,Op.d,optD,ba,d_a,c,u3]
   | false=>
    have he:e=0:=by simpa using c
    subst he;have ho:OpOk o:=hok rfl;have hf:=flat_two;have z2:((2:Nat):Int)=2:=rfl;have z3:((3:Nat):Int)=3:=rfl;obtain⟨a',q1,q2,q3⟩:=ad7 o h uw [.c (.seq adt (.seq ads (.seq (.seq adr (.cond (.t 74) adq .skip)) (.seq adp .ret))))] h 0 [] false rfl (wq _) uy uy;have ht:=to_ans h a' a';simp only[Bool.false_or,lwE,lwM,bl,Int.natCast_zero,List.cons_append,List.nil_append] at q3;cases hn:h.all id with
    | true=>
     obtain⟨e0,y1,y2,hw⟩:=aqh ho hck h uw a' q1 q2 hn;simp only[hn,Bool.not_true] at q3;unfold optD at hck;simp only[colD,i64s,nodT,Op.d,optD,typT,nod0,smD] at hw ht hf q3;simp(disch:=first|exact uv|fail) only[go_sem,X_aa,c_aa,hk,hck,hf,Op.d,optD,ba,d_a,u3,z2,z3,Int.reduceBNe,Int.reduceBEq,fc,fa]
     refine q3.trans ?_;by_cases hz:a'=[]
     · subst hz
       simp only[List.map_nil] at ht hw;simp(disch:=first|exact uv|fail) only[go_sem,X_aa,ht,hw,can8,bl,u3,z2,z3,Int.reduceBNe,Int.reduceBEq,fc,fa]
       done
     · rw[fz hz]
       simp(disch:=first|exact uv|fail) only[go_sem,X_aa,ht,hw,can8,u3,z2,z3,Int.reduceBNe,Int.reduceBEq,fc,fa]
       done
    | false=>
     obtain⟨e0,y0,y1,y2,hw⟩:=aqg ho hck h uw a' q1 q2 hn;simp only[hn,xf] at q3;unfold optD at hck;simp only[colD,i64s,nodT,Op.d,optD,typT,nod0,smD] at hw ht hf q3;simp(disch:=first|exact uv|fail) only[go_sem,X_aa,c_aa,hk,hck,hf,Op.d,optD,ba,d_a,u3,z2,z3,Int.reduceBNe,Int.reduceBEq,fc,fa]
     refine q3.trans ?_;by_cases hz:a'=[]
     · subst hz
       simp only[List.map_nil] at ht hw;simp(disch:=first|exact uv|fail) only[go_sem,X_aa,ht,hw,can8,bl,u3,z2,z3,Int.reduceBNe,Int.reduceBEq,fc,fa]
       done
     · rw[fz hz]
       simp(disch:=first|exact uv|fail) only[go_sem,X_aa,ht,hw,can8,u3,z2,z3,Int.reduceBNe,Int.reduceBEq,fc,fa]
       done
