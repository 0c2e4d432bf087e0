import Derived.Test.YtkdiccgfbfbjlaaGreatCoP
import Derived.KernelRfl
set_option linter.unusedSectionVars false
namespace Go.Proofs.YtkdiccgfbfbjlaaGreat
open Go Go.Ev
variable [Sh]
set_option maxHeartbeats 4000000
set_option maxRecDepth 100000
theorem abn:∀ (k n:Nat) (x:List UInt8),n≤k→x≠[]→x.length+n≤3000000→
  ∃ x':List UInt8,x'≠[]∧x'.length≤x.length+n+1∧go SM [.c (.loop bnu),.b 0,.c (.seq bds .ret)] ⟨[(0,.own false 1 (x.map AD)),(1,.d (.int .i64 ((n:Int))))],[]⟩=some (.own false 1 (x'.map AD),[])
 | k,n,x,hk,hx,hl=>by
  by_cases h:n<255
  · have d_a:decide ((n:Int)≥255)=false:=by simp<;>omega
    refine⟨x++[wU (n:Int)],by simp,by rw[aci,List.length_singleton];omega,?_⟩
    rw[go_loop];simp(disch:=first|exact abt|fail) only[go_sem,SM,d_a,wB,List.map_append,List.map_cons,List.map_nil]
  · cases k with
    |zero=>omega
    |succ k=>
    have d_a:decide ((n:Int)≥255)=true:=by simp<;>omega
    obtain⟨x',q1,q2,q3⟩:=abn k (n-255) (x++[255]) abu abw (by simp;omega)
    have e1:(n:Int)-255=((n-255:Nat):Int):=abu;have z:D.int .u8 255=AD 255:=rfl;rw[aci,List.length_singleton] at q2;refine⟨x',q1,by omega,Eq.trans ?_ q3⟩
    rw[go_loop];simp(disch:=first|exact abt|fail) only[go_sem,SM,d_a,e1,z,List.map_append,List.map_cons,List.map_nil]
theorem xp {x:List UInt8} (hx:x≠[]) (n:Nat) (hl:x.length+n≤3000000):∃ x':List UInt8,x'≠[]∧x'.length≤x.length+n∧evL cfg RF 0 [.own false 1 (x.map AD),.d (.int .i64 ((n:Int)))] []=some (.own false 1 (x'.map AD),[]):=by
 rw[show evL cfg RF 0 [.own false 1 (x.map AD),.d (.int .i64 ((n:Int)))] []=go SM [.c Yk] ⟨[(0,.own false 1 (x.map AD)),(1,.d (.int .i64 ((n:Int))))],[]⟩ from ab (fn:=gI) rfl rfl _ _ _ rfl rfl]
 by_cases h:n<15
 · have d_a:decide ((n:Int)<15)=true:=by simp<;>omega
   refine⟨x,hx,by omega,?_⟩
   simp(disch:=first|exact abt|fail) only[go_sem,SM,Yk,d_a]
 · have d_a:decide ((n:Int)<15)=false:=by simp<;>omega
   obtain⟨x',q1,q2,q3⟩:=abn n (n-15) x abu hx abu;have e1:(n:Int)-15=((n-15:Nat):Int):=abu;refine⟨x',q1,by omega,Eq.trans ?_ q3⟩
   simp(disch:=first|exact abt|fail) only[go_sem,SM,Yk,d_a,e1]
theorem arx {es ys:List D} (h:es.length+ys.length≤1000000000) (dst:Option Nat) (l:Ev.Loc):WG dst 1 l 0 es.length ys (some (.own false 1 es))=some (AG dst (.own true 1 (es++ys))++[(l,.AM)]):=by
 rw[WE (hn:=rfl) (h:=h)]
theorem aj1 {x:List UInt8} (hx:x≠[]) (a b c:D):evL cfg GY 0 [.own false 1 (x.map AD),.d a,.d b,.d c] []=go SN [.c IC] ⟨[(0,.own false 1 (x.map AD)),(1,.d a),(2,.d b),(3,.d c)],[]⟩:=ab (fn:=Xr) rfl rfl _ _ _ rfl rfl
theorem T5 {x q:List UInt8} {back n:Nat} (hn:4≤n) (hl:x.length+2*q.length+n≤1000000):
   ∃ x':List UInt8,x'≠[]∧x'.length≤x.length+2*q.length+n∧evL cfg GY 0 [Bw x,.d (.sl ((q).map AD)),.d (.int .i64 ((back:Int))),.d (.int .i64 ((n:Int)))] []=some (.own false 1 (x'.map AD),[]):=by
 have h:=fun y:UInt8=>xp (x:=x++[y]) abw q.length (by simp;omega)
 obtain⟨F,hF⟩:=Classical.axiomOfChoice h;have F1:=fun y=>(hF y).2.2
 have F2:=fun y=>(hF y).2.1
 simp only[aci,List.length_singleton] at F2;have h':=fun(y:UInt8×UInt8×UInt8)=>xp (x:=F y.1++q++[y.2.1,y.2.2]) abw (n-4) (by have:=F2 y.1;simp;omega)
 obtain⟨G,hG⟩:=Classical.axiomOfChoice h';have G1:=fun a b c=>(hG (a,b,c)).2.2
 have G2:=fun y=>(hG y).2.1
 have G0:=fun y=>(hG y).1
 simp only[aci,List.length_cons,List.length_nil] at G2;have A1:=fun(y:UInt8)=>arx (es:=(F y).map AD) (ys:=q.map AD) (by have:=F2 y;simp;omega)
 have A2:=fun(y a b:UInt8)=>arx (es:=(F y).map AD++q.map AD) (ys:=[AD a,AD b]) (by have:=F2 y;simp;omega)
 simp only[aby,aci] at A1 A2;have d_a:decide ((n:Int)>0)=true:=by simp<;>omega
 have e1:(n:Int)-4=((n-4:Nat):Int):=abu;have e2:((n:Int)==0)=false:=by simp;omega
 simp only[List.map_append,List.map_cons,List.map_nil] at F1 G1;have fin:∀ y a b,G (y,a,b)≠[]∧(G (y,a,b)).length≤x.length+2*q.length+n:=fun y a b=>⟨G0 _,by have:=G2 (y,a,b);have:=F2 y;simp only at *;omega⟩
 have fin2:=fun y a b=>(fin y a b).2
 by_cases hz:x=[]
 · subst hz
   rw[af,o_di];simp only[List.map_nil,List.nil_append] at F1;simp(disch:=first|exact abt|fail) only[go_sem,SN,IC,d_a,e1,e2,F1,G1,A1,A2,wB,d8,ax,aby,aci,List.length_cons,List.length_nil]
   refine⟨G (_,_,_),(fin _ _ _).1,?_,rfl⟩
   first|exact fin2 _ _ _| (simp only[List.length_nil,Nat.zero_add] at fin2;exact fin2 _ _ _)
 · rw[ac hz,aj1 hz]
   simp(disch:=first|exact abt|fail) only[go_sem,SN,IC,d_a,e1,e2,F1,G1,A1,A2,wB,d8,ax,aby,aci,List.length_cons,List.length_nil]
   refine⟨G (_,_,_),(fin _ _ _).1,?_,rfl⟩
   first|exact fin2 _ _ _| (simp only[List.length_nil,Nat.zero_add] at fin2;exact fin2 _ _ _)
theorem a9g {x q:List UInt8} (hl:x.length+2*q.length≤1000000):
   ∃ x':List UInt8,x'≠[]∧x'.length≤x.length+2*q.length+1∧evL cfg GY 0 [Bw x,.d (.sl ((q).map AD)),.d (.int .i64 (0)),.d (.int .i64 (0))] []=some (.own false 1 (x'.map AD),[]):=by
 have h:=fun y:UInt8=>xp (x:=x++[y]) abw q.length (by simp;omega)
 obtain⟨F,hF⟩:=Classical.axiomOfChoice h;have F1:=fun y=>(hF y).2.2
 have F0:=fun y=>(hF y).1
 have F2:=fun y=>(hF y).2.1
 simp only[aci,List.length_singleton] at F2;have A1:=fun(y:UInt8)=>arx (es:=(F y).map AD) (ys:=q.map AD) (by have:=F2 y;simp;omega)
 simp only[aby] at A1;simp only[List.map_append,List.map_cons,List.map_nil] at F1;have fin:∀ y,F y++q≠[]∧(F y++q).length≤x.length+2*q.length+1:=fun y=>⟨by simp[F0 y],by have:=F2 y;rw[aci];omega⟩
 have fin2:=fun y=>(fin y).2
 by_cases hz:x=[]
 · subst hz
   rw[af,o_di];simp only[List.map_nil,List.nil_append] at F1;simp(disch:=first|exact abt|fail) only[go_sem,SN,IC,F1,A1,wB,d8,ax,aby,Int.reduceGT,decide_false,gt_iff_lt,Int.reduceLT,Int.reduceBEq]
   refine⟨F _++q,(fin _).1,?_,by rw[List.map_append]⟩
   first|exact fin2 _| (simp only[List.length_nil,Nat.zero_add] at fin2;exact fin2 _)
 · rw[ac hz,aj1 hz]
   simp(disch:=first|exact abt|fail) only[go_sem,SN,IC,F1,A1,wB,d8,ax,aby,Int.reduceGT,decide_false,gt_iff_lt,Int.reduceLT,Int.reduceBEq]
   refine⟨F _++q,(fin _).1,?_,by rw[List.map_append]⟩
   first|exact fin2 _| (simp only[List.length_nil,Nat.zero_add] at fin2;exact fin2 _)
end Go.Proofs.YtkdiccgfbfbjlaaGreat
namespace Go.Proofs.YtkdiccgfbfbjlaaGreat
open Go Go.Ev
variable [Sh]
set_option maxHeartbeats 4000000
set_option maxRecDepth 100000
theorem ar4 (x:Int):∃ n:Nat,n<4294967296∧IntKind.u32.wrap x=(n:Int):=by
 refine⟨(IntKind.u32.wrap x).toNat,?_,?_⟩<;>simp[IntKind.wrap,IntKind.signed,IntKind.bits]<;>omega
def Gm (x:Int):Nat:=(IntKind.u32.wrap x).toNat / 2 ^ 20
theorem Xt (x:Int):Gm x<4096:=by
 obtain⟨n,h1,h2⟩:=ar4 x;unfold Gm;rw[h2,adv];omega
theorem hash_eq (x:Int):IntKind.i64.wrap (FA .u32 (IntKind.u32.wrap x) 20)=((Gm x:Nat):Int):=by
 obtain⟨n,h1,h2⟩:=ar4 x;unfold Gm;have e:=IV .u32 n (n:=20) abx;rw[show((20:Nat):Int)=20 from rfl] at e
 rw[h2,e,adv];exact bd abu abu
theorem YB (x:Int):∃ n:Nat,n<4096∧(V.d (.int .i64 ((Gm x:Nat):Int)),([]:List (Cel×V)))=(V.d (.int .i64 (n:Int)),[]):=⟨Gm x,Xt x,rfl⟩
theorem bmn (s:Get) (dst:Option Nat) (z:Nat) (x:AB) (c d e:D) (r:List D):Br s dst z x (.d (.sl (c::d::e::r))) 2=if e.cells.length=z then some (AG dst (.Af e 0)) else none:=by
 rw[zp _ _ _ _ abu];rfl
theorem bmm (s:Get) (dst:Option Nat) (z:Nat) (x:AB) (b c d e:D) (r:List D):Br s dst z x (.d (.sl (b::c::d::e::r))) 3=if e.cells.length=z then some (AG dst (.Af e 0)) else none:=by
 rw[zp _ _ _ _ abu];rfl
theorem kF (v:Int):∃ n:Nat,n<4096∧go ZN [.c (.seq abs .ret)] ⟨[(3,.d (.int .u32 v))],[]⟩=some (.d (.int .i64 ((n:Int))),[]):=by
 obtain⟨c,hc⟩:∃ c:Int,c=2654435761:=⟨_,rfl⟩
 have e:ast=[oo 26 (.mv (.t 3)),oo 27 (.bin .mul (.t 26) (.c (.int .u32 c))),oo 28 (.bin .shr (.t 27) (.c (.int .u64 20))),oo 29 (.Aj .i64 (.t 28)),oo 2 (.asg (.t 29))]:=by rw[hc];rfl
 unfold abs rg;rw[e];clear e hc;simp(disch:=first|exact abt|fail) only[go_sem,ZN,Vj,hash_eq,ax]
 exact YB _
theorem Uo {q:List UInt8} (h:4≤q.length):∃ n:Nat,n<4096∧evL cfg Q2 0 [.d (.sl ((q).map AD))] []=some (.d (.int .i64 ((n:Int))),[]):=by
 match q,h with
 | a::b::c::d::r,_=>
  have s8:=fun(x:Int)=>d8 .u32 .u64 x (b:=8) abx
  have s16:=fun(x:Int)=>d8 .u32 .u64 x (b:=16) abx
  obtain⟨sh,s24⟩:∃ sh:Int→Int,∀ x,aw .shl .u32 x .u64 24=some (.int .u32 (sh x)):=⟨fun x=>Ez .u32 x 24,fun x=>d8 .u32 .u64 x (b:=24) abx⟩
  obtain⟨n,h1,h2⟩:=kF (orI .u32 (orI .u32 (orI .u32 (IntKind.u32.wrap a.toNat) (Ez .u32 (IntKind.u32.wrap b.toNat) 8)) (Ez .u32 (IntKind.u32.wrap c.toNat) 16)) (sh (IntKind.u32.wrap d.toNat)));refine⟨n,h1,Eq.trans ?_ h2⟩;have ec:Vj= .seq bdr (.seq bdq (.seq abs .ret)):=rfl;rw[o_fh,ec];simp only[List.map_cons];generalize(AA.seq abs .ret)=R at *;simp(disch:=first|exact abt|fail) only[go_sem,ZN,s8,s16,s24,br a,br b,br c,br d,bmn,bmm]
theorem bmt (p q:List UInt8) (hl:p.length=q.length) (hb:p.length≤1000000):∀ (r:List UInt8) (i:Nat),p.drop i=r→i≤p.length→
  ∃ c:Bool,go SQ [.c (.loop bob),.b 0,.c (.seq an7 .ret)] ⟨[(0,.d (.sl ((p).map AD))),(1,.d (.sl ((q).map AD))),(12,.d (.int .i64 ((p.length:Int)))),(13,.d (.int .i64 ((i:Int))))],[]⟩=some (.d (.bool (c)),[])
 | [],i,hr,hi=>by
  have:=aq hr;have:i=p.length:=abu;subst this;have d_a:decide ((p.length:Int)<p.length)=false:=by simp<;>omega
  refine⟨true,?_⟩;rw[go_loop];simp(disch:=first|exact abt|fail) only[go_sem,SQ,d_a]
 | u::r,i,hr,hi=>by
  obtain⟨h1,h2,h3⟩:=ba hr;have d_a:decide ((i:Int)<p.length)=true:=by simp<;>omega
  obtain⟨v,hv⟩:∃ v,q[i]? =some v:=⟨_,ab0 abu⟩
  have eu:=br u;have ev:=br v;cases c:((u.toNat:Int) !=(v.toNat:Int)) with
  | true=>
   refine⟨false,?_⟩;rw[go_loop];simp(disch:=first|exact abt|fail) only[go_sem,SQ,d_a,h2,hv,eu,ev,c]
  | false=>
   obtain⟨c',ih⟩:=bmt p q hl hb r (i+1) h3 h1;refine⟨c',Eq.trans ?_ ih⟩;rw[go_loop];simp(disch:=first|exact abt|fail) only[go_sem,SQ,d_a,h2,hv,eu,ev,c,Int.natCast_add]
theorem bms {p q:List UInt8} (hl:p.length=q.length) (hb:p.length≤1000000):∃ c:Bool,evL cfg Rn 0 [.d (.sl ((p).map AD)),.d (.sl ((q).map AD))] []=some (.d (.bool (c)),[]):=by
 obtain⟨c,h⟩:=bmt p q hl hb p 0 rfl (aco _);have e:((p.length:Int) !=(q.length:Int))=false:=by simp[hl]
 refine⟨c,Eq.trans ?_ h⟩;rw[o_ao];simp(disch:=first|exact abt|fail) only[go_sem,SQ,Y8,e,Int.natCast_zero,aby]
end Go.Proofs.YtkdiccgfbfbjlaaGreat
namespace Go.Proofs.YtkdiccgfbfbjlaaGreat
open Go Go.Ev
variable [Sh]
set_option maxHeartbeats 4000000
set_option maxRecDepth 100000
abbrev fiE (t:List Int) (b x:List UInt8) (f i:Nat):List (Nat×V):=[(0,.own false 1 (t.map (D.int .i64))),(1,.d (.sl ((b).map AD))),(5,Bw x),(6,.d (.int .i64 ((f:Int)))),(7,.d (.int .i64 ((i:Int))))]
theorem Qt (t:List Int) (j:Nat) (z:Int):(t.map (D.int .i64)).set j (.int .i64 z)=(t.set j z).map (D.int .i64):=by rw[List.map_set]
theorem u9 (k:IntKind) (n z:Int):(D.int k n).setAt 0 [.int .i64 z]=some (.int .i64 z):=rfl
theorem aF (t:List Int) (b x:List UInt8) (hb:b.length≤70000) (f i o:Nat) (ho:o<i) (K:List Kf):∀ (k n:Nat),b.length-n≤k→4≤n→i+n≤b.length→
  ∃ n':Nat,4≤n'∧i+n'≤b.length∧go Eg (.c (.loop aah):: .b 2::K) ⟨fiE t b x f i++[(9,.d (.int .i64 ((o:Int)))),(10,.d (.int .i64 ((n:Int))))],[]⟩=go Eg K ⟨fiE t b x f i++[(9,.d (.int .i64 ((o:Int)))),(10,.d (.int .i64 ((n':Int)))),(72,.d (.bool (false)))],[]⟩
 | k,n,hk,hn,hin=>by
  have e1:(i:Int)+n=((i+n:Nat):Int):=abu;have e2:(o:Int)+n=((o+n:Nat):Int):=abu;by_cases c1:i+n<b.length
  · have d_a:decide (((i+n:Nat):Int)<b.length)=true:=by simp<;>omega
    obtain⟨u,hu⟩:∃ u,b[i+n]? =some u:=⟨_,ab0 c1⟩
    obtain⟨v,hv⟩:∃ v,b[o+n]? =some v:=⟨_,ab0 abu⟩
    have eu:=br u;have ev:=br v;cases c2:((v.toNat:Int)==(u.toNat:Int)) with
    | true=>
     cases k with
     |zero=>omega
     |succ k=>
     obtain⟨n',q1,q2,q3⟩:=aF t b x hb f i o ho K k (n+1) abu abu abu;have ez:((n+1:Nat):Int)=(n:Int)+1:=abu;refine⟨n',q1,q2,Eq.trans ?_ q3⟩;rw[go_loop];simp(disch:=first|exact abt|fail) only[go_sem,Eg,fiE,d_a,e1,e2,c2,hu,hv,eu,ev,av,List.cons_append,List.nil_append,aby,ez]
    | false=>
     refine⟨n,hn,hin,?_⟩;rw[go_loop];simp(disch:=first|exact abt|fail) only[go_sem,Eg,fiE,d_a,e1,e2,c2,hu,hv,eu,ev,av,List.cons_append,List.nil_append,aby]
  · have d_a:decide (((i+n:Nat):Int)<b.length)=false:=by simp<;>omega
    refine⟨n,hn,hin,?_⟩;rw[go_loop];simp(disch:=first|exact abt|fail) only[go_sem,Eg,fiE,d_a,e1,av,List.cons_append,List.nil_append,aby]
theorem bmb (b:List UInt8) (hb:b.length≤70000):∀ (k i f:Nat) (x:List UInt8) (t:List Int),b.length-i≤k→f≤i→i≤b.length→t.length=4096→(∀ v∈t,-1≤v∧v<i)→x.length≤3*f→
  ∃ x':List UInt8,x'≠[]∧x'.length≤3*b.length+1∧go Eg [.c (.loop aag),.b 0,.c (.seq yc .ret)] ⟨fiE t b x f i,[]⟩=some (.own false 1 (x'.map AD),[])
 | k,i,f,x,t,hk,hfi,hi,ht,hv,hx=>by
  have et:List.take b.length (b.map AD)=b.map AD:=adw abw;have e4:(i:Int)+4=((i+4:Nat):Int):=abu;by_cases hlt:i+4≤b.length
  · cases k with
    |zero=>omega
    |succ k=>
    have d_a:decide (((i+4:Nat):Int)≤b.length)=true:=by simp<;>omega
    have hd:(b.drop i).length=b.length-i:=ado;obtain⟨h,h1,hh⟩:=Uo (q:=b.drop i) abu;simp only[List.map_drop] at hh;obtain⟨v,hv0⟩:∃ v,t[h]? =some v:=⟨_,ab0 abu⟩
    obtain⟨v1,v2⟩:=hv v (List.mem_of_getElem? hv0);have ht':(t.set h (i:Int)).length=4096:=by rw[List.length_set];exact ht
    have hlh:h<t.length:=abu;have hv':∀ j:Nat,i<j→∀ z∈t.set h (i:Int),-1≤z∧z<j:=fun j hj z hz=>by
      rcases adh hz with hz|rfl
      · have:=hv z hz;omega
      · omega
    have next:=bmb b hb k (i+1) f x (t.set h (i:Int)) abu abu abu ht' (hv' _ abu) hx
    have ez:((i+1:Nat):Int)=(i:Int)+1:=abu;by_cases c0:v<0
    · have d_c:decide (v<0)=true:=by simp<;>omega
      obtain⟨x',q1,q2,q3⟩:=next
      refine⟨x',q1,q2,Eq.trans ?_ q3⟩;rw[go_loop];simp(disch:=first|exact abt|fail) only[go_sem,Eg,fiE,d_a,d_c,e4,et,hh,hv0,Qt,u9,av,aby,ez]
    · have d_c:decide (v<0)=false:=by simp<;>omega
      obtain⟨o,rfl⟩:∃ o:Nat,v=(o:Int):=⟨v.toNat,by omega⟩
      have eo:(i:Int)-o=((i-o:Nat):Int):=abu;rcases ab2 (decide (((i-o:Nat):Int)>65535)) with d_f|d_f<;>have p_f:=d_f<;>simp only[ab4,ab3,acg,ab6,ne_eq] at p_f
      · obtain⟨x',q1,q2,q3⟩:=next
        refine⟨x',q1,q2,Eq.trans ?_ q3⟩;rw[go_loop];simp(disch:=first|exact abt|fail) only[go_sem,Eg,fiE,d_a,d_c,d_f,e4,et,hh,hv0,eo,Qt,u9,av,aby,ez]
      · have eo4:(o:Int)+4=((o+4:Nat):Int):=abu
        obtain⟨cq,hq⟩:=bms (p:=(b.take (o+4)).drop o) (q:=(b.take (i+4)).drop i) (by simp;omega) (by simp;omega)
        simp only[List.map_drop,List.map_take] at hq;cases cq with
        | false=>
         obtain⟨x',q1,q2,q3⟩:=next
         refine⟨x',q1,q2,Eq.trans ?_ q3⟩;rw[go_loop];simp(disch:=first|exact abt|fail) only[go_sem,Eg,fiE,d_a,d_c,d_f,e4,eo4,et,hh,hv0,hq,eo,Qt,u9,av,aby,ez]
        | true=>
         obtain⟨n,n1,n2,n3⟩:=aF (t.set h (i:Int)) b x hb f i o abu [.c (.seq yf (.seq ye yd)),.b 1,.c (.loop aag),.b 0,.c (.seq yc .ret)] b.length 4 abu (ab5 _) hlt;have hp:((b.take i).drop f).length=i-f:=by rw[ado,adp];omega
         obtain⟨x1,p1,p2,p3⟩:=T5 (x:=x) (q:=(b.take i).drop f) (back:=i-o) (n:=n) n1 abu;rw[hp] at p2;simp only[List.map_drop,List.map_take] at p3;obtain⟨x',q1,q2,q3⟩:=bmb b hb k (i+n) (i+n) x1 (t.set h (i:Int)) abu (ab5 _) n2 ht' (hv' _ abu) abu;have en:(i:Int)+n=((i+n:Nat):Int):=abu;have z4:((4:Nat):Int)=4:=rfl;refine⟨x',q1,q2,Eq.trans (Eq.trans ?_ n3) (Eq.trans ?_ q3)⟩
         · rw[go_loop]
           simp(disch:=first|exact abt|fail) only[go_sem,Eg,fiE,d_a,d_c,d_f,e4,eo4,et,hh,hv0,hq,eo,Qt,u9,av,z4,aby,List.cons_append,List.nil_append]
         · simp only[fiE,ac p1]
           by_cases hz:x=[]
           · subst hz
             rw[af] at p3 ⊢;simp(disch:=first|exact abt|fail) only[go_sem,Eg,p3,eo,en,aby,List.cons_append,List.nil_append]
           · rw[ac hz] at p3 ⊢
             simp(disch:=first|exact abt|fail) only[go_sem,Eg,p3,eo,en,aby,List.cons_append,List.nil_append]
  · have d_a:decide (((i+4:Nat):Int)≤b.length)=false:=by simp<;>omega
    have hq:(b.drop f).length=b.length-f:=ado;obtain⟨x',q1,q2,q3⟩:=a9g (x:=x) (q:=b.drop f) abu;simp only[List.map_drop] at q3;refine⟨x',q1,by omega,?_⟩
    rw[go_loop];by_cases hz:x=[]
    · subst hz
      rw[af] at q3;simp(disch:=first|exact abt|fail) only[go_sem,Eg,fiE,d_a,e4,et,q3,af,aby]
    · rw[ac hz] at q3
      rw[show fiE t b x f i=[(0,.own false 1 (t.map (D.int .i64))),(1,.d (.sl ((b).map AD))),(5,.own false 1 (x.map AD)),(6,.d (.int .i64 ((f:Int)))),(7,.d (.int .i64 ((i:Int))))] from by unfold fiE;rw[ac hz]]
      simp(disch:=first|exact abt|fail) only[go_sem,Eg,d_a,e4,et,q3,aby]
