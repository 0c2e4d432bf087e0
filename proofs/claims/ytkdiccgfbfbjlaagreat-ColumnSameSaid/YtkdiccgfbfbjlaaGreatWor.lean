import Derived.Test.YtkdiccgfbfbjlaaGreatCoU
import Derived.Test.YtkdiccgfbfbjlaaGreatL10
import Derived.KernelRfl
set_option linter.unusedSectionVars false
namespace Go.Proofs.YtkdiccgfbfbjlaaGreat
open Go Go.Ev
variable [Sh]
set_option maxHeartbeats 2000000
theorem mm (a b:Tx):evL cfg Qz 0 [.d (BA a),.d (BA b)] []=some (.d (.int .i64 (Ed a b)),[]):=by
 refine ak (n:=1) ?_;have hx:cfg.ext Qz=some kw:=rfl;simp only[BU,hx,B6,Option.map_some,Option.bind_some,kw,BA,aq8]
theorem dn (a b:Tx):evL cfg G5 0 [.d (BA a),.d (BA b)] []=some (.d (.int .i64 (Ed a b)),[]):=by
 rw[o_ee];simp(disch:=first|exact abt|fail) only[go_sem,X_ee,Yb,mm]
theorem bm5 (a b:Tx):decide (Ed a b<0)=Op.bytesLess a b:=by
 unfold Ed;cases Op.bytesLess a b
 · cases Op.bytesLess b a<;>rfl
 · rfl
theorem YN (a b:Tx):(Ed a b==0)=(a==b):=by
 unfold Ed;by_cases e:a=b
 · subst e;simp[alg]
 · have:(a==b)=false:=by simpa using e
   rw[this];rcases ab2 (Op.bytesLess a b) with h|h
   · rw[if_pos h];rfl
   · rw[if_neg (by simp[h])]
     rcases ab2 (Op.bytesLess b a) with h'|h'
     · rw[if_pos h'];rfl
     · exact absurd (alf h h') e
theorem bk8 {x:Tx} {ws:List Tx} (hR:ER ws) {k:Nat} (h1:∀ i y,i<k→ws[i]? =some y→Op.bytesLess y x=true) (h2:∀ i y,k≤i→ws[i]? =some y→Op.bytesLess y x=false) (hk:k≤ws.length):CS x ws=k:=by
 apply Classical.byContradiction;intro Ai;rcases Nat.lt_or_gt_of_ne Ai with h|h
 · have hlt:CS x ws<ws.length:=abu
   have:=bk9 (x:=x) (ab0 hlt);rw[h1 _ _ h (ab0 hlt)] at this;cases this
 · have hle:=si x ws
   have hlt:k<ws.length:=abu;have:=bk7 (x:=x) h (ab0 hlt);rw[h2 _ _ (ab5 _) (ab0 hlt)] at this;cases this
theorem V0 {ws:List Tx} (hw:ws.length≤1000000) (hR:ER ws) (x:Tx) {K:List Kf}:∀ (n i j:Nat),j-i=n→i≤j→j≤ws.length→(∀ m y,m<i→ws[m]? =some y→Op.bytesLess y x=true)→(∀ m y,j≤m→ws[m]? =some y→Op.bytesLess y x=false)→
  go IP (.c (.loop bod):: .b 0::K) ⟨[(0,.d (.sl ((ws).map BA))),(1,.d (BA x)),(2,.d (.fn G5)),(8,.d (.int .i64 ((ws.length:Int)))),(9,.d (.int .i64 ((i:Int)))),(10,.d (.int .i64 ((j:Int))))],[]⟩=
    go IP K ⟨[(0,.d (.sl ((ws).map BA))),(1,.d (BA x)),(2,.d (.fn G5)),(8,.d (.int .i64 ((ws.length:Int)))),(9,.d (.int .i64 (((CS x ws:Nat):Int)))),(10,.d (.int .i64 (((CS x ws:Nat):Int)))),(17,.d (.bool (false)))],[]⟩:=by
 intro n
 induction n using Nat.strongRecOn with
 | _ n IH=>
  intro i j hn hij hj h1 h2;rw[go_loop];by_cases hlt:i<j
  · have d_a:decide ((i:Int)<j)=true:=by simp<;>omega
    have hm:(i+j) / 2<ws.length:=abu;have hc:=ab0 hm;have e1:IntKind.u64.wrap ((i:Int)+j)=((i+j:Nat):Int):=by rw[dr abu abu];omega
    have e2:=XP (i+j);have e3:IntKind.i64.wrap (((i+j) / 2:Nat):Int)=(((i+j) / 2:Nat):Int):=bd abu abu;rcases ab2 (Op.bytesLess ws[(i+j) / 2] x) with h|h
    · have ih:=IH (j-((i+j) / 2+1)) abu ((i+j) / 2+1) j rfl abu hj (fun m y hm2 hy=>by
       rcases Nat.lt_or_eq_of_le (Nat.lt_succ_iff.1 hm2) with h3|h3
       · exact lu (asf hR hy hc h3) h
       · subst h3;rw[hc] at hy;cases hy;exact h) h2
      rw[show(((i+j) / 2+1:Nat):Int)=(((i+j) / 2:Nat):Int)+1 by omega] at ih
      rw[← ih];simp(disch:=first|exact abt|fail) only[go_sem,IP,d_a,ax,e1,e2,e3,hc,dn,bm5,h]
    · have ih:=IH ((i+j) / 2-i) abu i ((i+j) / 2) rfl abu abu h1 (fun m y hm2 hy=>by
       rcases Nat.lt_or_eq_of_le hm2 with h3|h3
       · rcases ab2 (Op.bytesLess y x) with h4|h4
         · exact absurd (lu (asf hR hc hy h3) h4) (by simp[h])
         · exact h4
       · subst h3;rw[hc] at hy;cases hy;exact h)
      rw[← ih];simp(disch:=first|exact abt|fail) only[go_sem,IP,d_a,ax,e1,e2,e3,hc,dn,bm5,h]
  · have d_a:decide ((i:Int)<j)=false:=by simp<;>omega
    have hp:=bk8 hR h1 (fun m y hm2 hy=>h2 m y abu hy) abu
    have:j=i:=abu;subst this;rw[hp];simp(disch:=first|exact abt|fail) only[go_sem,IP,d_a]
theorem bno {ws:List Tx} (hw:ws.length≤1000000) (hR:ER ws) (x:Tx):evL cfg Ru 0 [.d (.sl ((ws).map BA)),.d (BA x),.d (.fn G5)] []=some (.d (.tup [.int .i64 (CS x ws:Nat),.bool (ws[CS x ws]? ==some x)]),[]):=by
 rw[o_aa];have hl:=fun K=>V0 hw hR x (K:=K) ws.length 0 ws.length rfl (aco _) (ab5 _) (fun m y h=>by omega) (fun m y h hy=>by rw[adz h] at hy;cases hy)
 simp only[nc0] at hl;have hle:=si x ws;by_cases h:CS x ws<ws.length
 · have d_a:decide (((CS x ws:Nat):Int)<ws.length)=true:=by simp<;>omega
   have hc:=ab0 h;simp(disch:=first|exact abt|fail) only[go_sem,IP,Vx,hl,d_a,hc,dn,YN]
   rfl
 · have d_a:decide (((CS x ws:Nat):Int)<ws.length)=false:=by simp<;>omega
   have hc:ws[CS x ws]? =none:=adz abu;simp(disch:=first|exact abt|fail) only[go_sem,IP,Vx,hl,d_a,hc]
   rfl
end Go.Proofs.YtkdiccgfbfbjlaaGreat
namespace Go.Proofs.YtkdiccgfbfbjlaaGreat
open Go Go.Ev
variable [Sh]
set_option maxHeartbeats 2000000
theorem vf {l:List Tx} (hl:l.length≤1000000):evL cfg Qy 0 [.d (.sl ((l).map BA))] []=some (if l.isEmpty then .d (.sl []) else .own false 1 ((BI l).map BA),[]):=by
 refine ak (n:=1) ?_;have hx:cfg.ext Qy=some od:=rfl;cases l with
 |nil=>rfl
 | cons x l=>
  simp only[BU,hx,B6,Option.map_some,Option.bind_some,aat (l:=x::l) abw hl];rfl
theorem ki {l ws:List Tx} (hw:ws.length≤1000000) (hb:∀ x∈ws,x.length≤1000000) {K:List Kf}:∀ (r:List Tx) (i:Nat) (acc:List Tx),ws.drop i=r→i≤ws.length→acc.length=i→
  go Ef (.c (.loop bn5):: .b 0::K) ⟨[(0,.d (.sl ((l).map BA))),(2,.ref 0 2 0),(3,.ref 0 3 0),(4,.d (.sl ((ws).map BA))),(13,.d (.sl ((ws).map BA))),(14,.d (.int .i64 ((ws.length:Int)))),(15,.d (.int .i64 ((i:Int))))],[(⟨0,2,0⟩,.d .AL),(⟨0,2,1⟩,.d .AL),(⟨0,3,0⟩,GW (acc.map BA)),(⟨0,3,1⟩,.d .AL)]⟩=
   go Ef K ⟨[(0,.d (.sl ((l).map BA))),(2,.ref 0 2 0),(3,.ref 0 3 0),(4,.d (.sl ((ws).map BA))),(13,.d (.sl ((ws).map BA))),(14,.d (.int .i64 ((ws.length:Int)))),(15,.d (.int .i64 ((ws.length:Int)))),(16,.d (.bool (false)))],[(⟨0,2,0⟩,.d .AL),(⟨0,2,1⟩,.d .AL),(⟨0,3,0⟩,GW ((acc++r).map BA)),(⟨0,3,1⟩,.d .AL)]⟩
 | [],i,acc,hr,hi,ha=>by
  have h1:=aq hr;have:i=ws.length:=abu;subst this;have d_a:decide ((ws.length:Int)<ws.length)=false:=by simp<;>omega
  rw[go_loop,List.append_nil];cases acc with
  |nil=>simp(disch:=first|exact abt|fail) only[go_sem,Ef,d_a,jg]
  |cons a acc=>simp(disch:=first|exact abt|fail) only[go_sem,Ef,d_a,iu]
 | x::r,i,acc,hr,hi,ha=>by
  obtain⟨hlt,hc,hr'⟩:=ba hr;have d_a:decide ((i:Int)<ws.length)=true:=by simp<;>omega
  have hx:=hb x (List.mem_of_getElem? hc);have ih:=ki (l:=l) hw hb (K:=K) r (i+1) (acc++[x]) hr' abu (by simp;omega)
  rw[ac4,List.singleton_append,List.map_append,List.map_cons,List.map_nil,aj8,show(((i+1:Nat)):Int)=(i:Int)+1 by omega] at ih
  rw[go_loop,← ih];have hcl:x=[]∧evL cfg EH 0 [.d (BA x)] []=some (.d .AL,[])∨x≠[]∧evL cfg EH 0 [.d (BA x)] []=some (.own false 1 (x.map AD),[]):=by
   by_cases hz:x=[]
   · subst hz;exact .inl ⟨rfl,kp⟩
   · exact .inr ⟨hz,nz hz hx⟩
  cases acc with
  | nil=>
   rcases hcl with⟨rfl,hcl⟩|⟨hz,hcl⟩
   · simp(disch:=first|exact abt|fail) only[go_sem,Ef,d_a,hc,hcl,jg];rfl
   · simp(disch:=first|exact abt|fail) only[go_sem,Ef,d_a,hc,hcl,jg];rfl
  | cons a acc=>
   rw[List.length_cons] at ha;rcases hcl with⟨rfl,hcl⟩|⟨hz,hcl⟩
   · simp(disch:=first|exact abt|fail) only[go_sem,Ef,d_a,hc,hcl,iu];rfl
   · simp(disch:=first|exact abt|fail) only[go_sem,Ef,d_a,hc,hcl,iu];rfl
theorem kj {l ws:List Tx} (hl:l.length≤1000000) (hw:ws.length≤1000000) (hR:ER ws) {c:V} (hc0:c.home 0=c) {K:List Kf}:∀ (r:List Tx) (i:Nat) (acc:List Int),l.drop i=r→i≤l.length→acc.length=i→
  go Ef (.c (.loop arc):: .b 2::K) ⟨[(2,.ref 0 2 0),(3,.ref 0 3 0),(4,.d (.sl ((ws).map BA))),(28,.d (.sl ((l).map BA))),(29,.d (.int .i64 ((l.length:Int)))),(30,.d (.int .i64 ((i:Int))))],[(⟨0,2,0⟩,.d .AL),(⟨0,2,1⟩,.d .AL),(⟨0,3,0⟩,c),(⟨0,3,1⟩,GW (acc.map (D.int .i64)))]⟩=
   go Ef K ⟨[(2,.ref 0 2 0),(3,.ref 0 3 0),(4,.d (.sl ((ws).map BA))),(28,.d (.sl ((l).map BA))),(29,.d (.int .i64 ((l.length:Int)))),(30,.d (.int .i64 ((l.length:Int)))),(31,.d (.bool (false)))],[(⟨0,2,0⟩,.d .AL),(⟨0,2,1⟩,.d .AL),(⟨0,3,0⟩,c),(⟨0,3,1⟩,GW ((acc++Fb r ws).map (D.int .i64)))]⟩
 | [],i,acc,hr,hi,ha=>by
  have h1:=aq hr;have:i=l.length:=abu;subst this;have d_a:decide ((l.length:Int)<l.length)=false:=by simp<;>omega
  rw[go_loop,show acc++Fb [] ws=acc by simp[Fb]]
  cases acc with
  |nil=>simp(disch:=first|exact abt|fail) only[go_sem,Ef,d_a,jg,hc0]
  |cons a acc=>simp(disch:=first|exact abt|fail) only[go_sem,Ef,d_a,iu,hc0]
 | x::r,i,acc,hr,hi,ha=>by
  obtain⟨hlt,hc,hr'⟩:=ba hr;have d_a:decide ((i:Int)<l.length)=true:=by simp<;>omega
  have ih:=kj hl hw hR hc0 (K:=K) r (i+1) (acc++[(CS x ws:Int)]) hr' abu (by simp;omega)
  have e1:acc++[(CS x ws:Int)]++Fb r ws=acc++Fb (x::r) ws:=by simp[Fb]
  rw[e1,List.map_append,List.map_cons,List.map_nil,aj8,show(((i+1:Nat)):Int)=(i:Int)+1 by omega] at ih
  rw[go_loop,← ih];cases acc with
  |nil=>simp(disch:=first|exact abt|fail) only[go_sem,Ef,d_a,hc,bno hw hR,jg,hc0]
  | cons a acc=>
   rw[List.length_cons] at ha;simp(disch:=first|exact abt|fail) only[go_sem,Ef,d_a,hc,bno hw hR,iu,hc0]
theorem zt {l:List Tx} (hl:l.length≤1000000) (hb:∀ x∈l,x.length≤1000000):evL cfg RZ 0 [.d (.sl ((l).map BA))] []=some (.d (.agg [.sl ((BI l).map BA),.sl ((Fb l (BI l)).map (D.int .i64))]),[]):=by
 have hwl:=gq l;have h1:=vf hl;have hw:∀ K,_:=fun K=>ki (l:=l) (ws:=BI l) abu (fun x hx=>hb x (na.1 hx)) (K:=K) (BI l) 0 [] rfl (aco _) rfl
 simp only[nc0,List.map_nil,jg,List.nil_append] at hw;have hi:∀ c hc0 K,_:=fun c hc0 K=>kj hl (ws:=BI l) abu (vg l) (c:=c) hc0 (K:=K) l 0 [] rfl (aco _) rfl
 simp only[nc0,List.map_nil,jg,List.nil_append] at hi;cases h:BI l with
 | nil=>
  have:l=[]:=by
   cases l with
   |nil=>rfl
   |cons x l=>have:=(na (l:=x::l) (z:=x)).2 List.mem_cons_self;rw[h] at this;cases this
  subst this;exact ak (n:=3) abv
 | cons w ws=>
  have hi:=hi (.own false 1 ((w::ws).map BA)) rfl;have hx:∃ x r,l=x::r:=by
   cases l with
   |nil=>cases h
   |cons x r=>exact⟨x,r,rfl⟩
  obtain⟨y,q,hq⟩:=hx;have e:Fb l (w::ws)=(CS y (w::ws):Int)::Fb q (w::ws):=by rw[hq];rfl
  rw[h,e] at hi;rw[h] at hw;rw[e];simp only[List.map_cons,iu,List.length_cons] at hw hi;rw[o_bu];have hie:l.isEmpty=false:=by rw[hq];rfl
  simp(disch:=first|exact abt|fail) only[go_sem,Ef,Y1,h1,hie,h,hw,hi]
end Go.Proofs.YtkdiccgfbfbjlaaGreat
namespace Go.Proofs.YtkdiccgfbfbjlaaGreat
open Go Go.Ev
variable [Sh]
set_option maxHeartbeats 2000000
theorem ut (n:Nat) (hn:n≤1000000000):evL cfg Q0 0 [.d (.int .i64 ((n:Int)))] []=some (.own false 1 (List.replicate n .unk),[]):=by
 refine ak (n:=1) ?_;have hx:cfg.ext Q0=some dg:=rfl;simp only[BU,hx,B6,Option.map_some,Option.bind_some,dg];rw[if_pos ⟨by omega,by omega⟩,adv]
 rfl
def Fm (l:List Tx):V:=if l.length≤1 then GW (l.flatten.map AD) else .own false 1 (l.flatten.map AD)
theorem akl {l:List Tx} (hl:l.flatten.length≤100000000) (hn:l.length≤1000000) {K:List Kf}:∀ (r:List Tx) (i n:Nat),l.drop i=r→i≤l.length→n+r.flatten.length=l.flatten.length→
  go GU (.c (.loop aro):: .b 0::K) ⟨[(0,.d (.sl ((l).map BA))),(1,.d (.sl [])),(5,.d (.int .i64 ((n:Int)))),(42,.d (.sl ((l).map BA))),(43,.d (.int .i64 ((l.length:Int)))),(44,.d (.int .i64 ((i:Int))))],[]⟩=
   go GU K ⟨[(0,.d (.sl ((l).map BA))),(1,.d (.sl [])),(5,.d (.int .i64 ((l.flatten.length:Int)))),(42,.d (.sl ((l).map BA))),(43,.d (.int .i64 ((l.length:Int)))),(44,.d (.int .i64 ((l.length:Int)))),(45,.d (.bool (false)))],[]⟩
 | [],i,n,hr,hi,ha=>by
  have h1:=aq hr;have:i=l.length:=abu;subst this;have d_a:decide ((l.length:Int)<l.length)=false:=by simp<;>omega
  have e:n=l.flatten.length:=by simpa using ha
  rw[go_loop,← e];simp(disch:=first|exact abt|fail) only[go_sem,GU,d_a]
 | x::r,i,n,hr,hi,ha=>by
  obtain⟨hlt,hc,hr'⟩:=ba hr;have d_a:decide ((i:Int)<l.length)=true:=by simp<;>omega
  rw[List.flatten_cons,aci] at ha;have ih:=akl hl hn (K:=K) r (i+1) (n+x.length) hr' abu abu;rw[show(((i+1:Nat)):Int)=(i:Int)+1 by omega,show(((n+x.length:Nat)):Int)=(n:Int)+x.length by omega] at ih
  have d_b:decide ((x.length:Int)>9223372036854775807-n)=false:=by simp<;>omega
  rw[go_loop,← ih];simp(disch:=first|exact abt|fail) only[go_sem,GU,d_a,d_b,hc]
theorem akm {l:List Tx} (hl:l.flatten.length≤100000000) (hn:l.length≤1000000):∀ (r:List Tx) (i:Nat) (acc:Tx),l.drop i=r→i≤l.length→acc.length+r.flatten.length≤100000000→
  go GU [.c (.loop arn),.b 2,.c (.seq ank .ret)] ⟨[(1,.d (.sl [])),(8,.own false 1 (acc.map AD++List.replicate r.flatten.length .unk)),(9,.d (.int .i64 ((acc.length:Int)))),(70,.d (.sl ((l).map BA))),(71,.d (.int .i64 ((l.length:Int)))),(72,.d (.int .i64 ((i:Int))))],[]⟩=
   some (.own false 1 ((acc++r.flatten).map AD),[])
 | [],i,acc,hr,hi,ha=>by
  have h1:=aq hr;have d_a:decide ((i:Int)<l.length)=false:=by simp<;>omega
  rw[go_loop];simp(disch:=first|exact abt|fail) only[go_sem,GU,d_a,List.flatten_nil,List.append_nil]
 | x::r,i,acc,hr,hi,ha=>by
  obtain⟨hlt,hc,hr'⟩:=ba hr;have d_a:decide ((i:Int)<l.length)=true:=by simp<;>omega
  rw[List.flatten_cons,aci] at ha;have ih:=akm hl hn r (i+1) (acc++x) hr' abu (by rw[aci];omega)
  rw[ac4,← List.flatten_cons,List.map_append,aci,show(((i+1:Nat)):Int)=(i:Int)+1 by omega,show(((acc.length+x.length:Nat)):Int)=(acc.length:Int)+x.length by omega] at ih
  have c1:=tk (some 81) (.slot 8) acc.length (x.length+r.flatten.length) (acc.map AD) [] (x.length+r.flatten.length) .unk abw rfl abw;have c2:=tk (some 88) (.slot 8) acc.length (x.length+r.flatten.length) (acc.map AD) (x.map AD) (x.length+r.flatten.length) .unk abw rfl abw;simp only[List.append_nil,List.length_nil,Nat.sub_zero,aby,Nat.add_sub_cancel_left,nc0] at c1 c2;rw[go_loop,← ih];simp(disch:=first|exact abt|fail) only[go_sem,GU,d_a,hc,c1,c2,List.flatten_cons,List.length_replicate,Nat.add_sub_cancel_left,Int.add_zero]
theorem uq {l:List Tx} (hl:l.flatten.length≤100000000) (hn:l.length≤1000000):evL cfg Rl 0 [.d (.sl ((l).map BA)),.d (.sl [])] []=some (Fm l,[]):=by
 cases l with
 |nil=>exact ak (n:=3) abv
 | cons x r=>
  cases r with
  | nil=>
   rw[o_av];have e:Fm [x]=GW (x.map AD):=by simp[Fm]
   rw[e];have hx:x.length≤100000000:=by simpa using hl
   cases x with
   |nil=>simp(disch:=first|exact abt|fail) only[go_sem,GU,SG,List.map_nil,show((1:Int)==0)=false from rfl,show((0+1:Int)==0)=false from rfl];rfl
   | cons c x=>
    rw[List.length_cons] at hx;simp(disch:=first|exact abt|fail) only[go_sem,GU,SG,show((1:Int)==0)=false from rfl,show((0+1:Int)==0)=false from rfl];rfl
  | cons y r=>
   have e:Fm (x::y::r)= .own false 1 ((x++(y::r).flatten).map AD):=by simp[Fm]
   have hs:=fun K=>akl (l:=x::y::r) hl hn (K:=K) (x::y::r) 0 0 rfl (aco _) abu
   have A6:x.length+(y::r).flatten.length≤100000000:=by rw[← aci,← List.flatten_cons];exact hl
   have hf:=akm (l:=y::r) abu (by simp only[List.length_cons] at hn ⊢;omega) (y::r) 0 x rfl (aco _) A6
   have c2:=tk (some 68) (.slot 8) 0 (x.length+(y::r).flatten.length) [] (x.map AD) (x.length+(y::r).flatten.length) .unk rfl rfl abw;rw[e,o_av];have a1:(((r.length+1+1:Nat):Int)==0)=false:=by simp;omega
   have a2:(((r.length+1+1:Nat):Int)==1)=false:=by simp;omega
   simp only[nc0,List.length_cons,List.map_cons] at hs hf;simp only[List.length_cons] at hn;have a3:(x::y::r).flatten.length=x.length+(y::r).flatten.length:=by rw[List.flatten_cons,aci]
   have hz:=ut (x.length+(y::r).flatten.length) abu;rw[a3] at hs;simp only[List.nil_append,aby,Nat.add_sub_cancel_left] at c2;have e5:List.take (x.length+(y::r).flatten.length) (List.replicate (x.length+(y::r).flatten.length) D.unk)=List.replicate (x.length+(y::r).flatten.length) D.unk:=adw abw;simp(disch:=first|exact abt|fail) only[go_sem,GU,SG,a1,a2,hs,hz,nc0,List.length_replicate,e5,c2,show decide ((0:Int)>0)=false from rfl]
   have e6:List.drop (Int.toNat 1) (List.take (r.length+1+1) (BA x::BA y::r.map BA))=BA y::r.map BA:=by
    rw[adw abw];rfl
   rw[e6,List.length_cons,aby];exact hf
end Go.Proofs.YtkdiccgfbfbjlaaGreat
namespace Go.Proofs.YtkdiccgfbfbjlaaGreat
open Go Go.Ev
variable [Sh]
set_option maxHeartbeats 2000000
def El (l:List Tx):List Int:=l.map fun x=>(x.length:Int)
theorem l6 {l:List Tx} (hn:l.length≤1000000) {K:List Kf}:∀ (r:List Tx) (i:Nat) (acc:List Int),l.drop i=r→i≤l.length→acc.length=i→
  go QJ (.c (.loop bnv):: .b 0::K) ⟨[(0,.d (.sl ((l).map BA))),(4,.own false 1 (acc.map (D.int .i64))),(10,.d (.sl ((l).map BA))),(11,.d (.int .i64 ((l.length:Int)))),(12,.d (.int .i64 ((i:Int))))],[]⟩=
   go QJ K ⟨[(0,.d (.sl ((l).map BA))),(4,.own false 1 ((acc++El r).map (D.int .i64))),(10,.d (.sl ((l).map BA))),(11,.d (.int .i64 ((l.length:Int)))),(12,.d (.int .i64 ((l.length:Int)))),(13,.d (.bool (false)))],[]⟩
 | [],i,acc,hr,hi,ha=>by
  have h1:=aq hr;have:i=l.length:=abu;subst this;have d_a:decide ((l.length:Int)<l.length)=false:=by simp<;>omega
  rw[go_loop,show acc++El []=acc by simp[El]]
  simp(disch:=first|exact abt|fail) only[go_sem,QJ,d_a]
 | x::r,i,acc,hr,hi,ha=>by
  obtain⟨hlt,hc,hr'⟩:=ba hr;have d_a:decide ((i:Int)<l.length)=true:=by simp<;>omega
  have ih:=l6 hn (K:=K) r (i+1) (acc++[(x.length:Int)]) hr' abu (by simp;omega)
  have e1:acc++[(x.length:Int)]++El r=acc++El (x::r):=by simp[El]
  rw[e1,List.map_append,List.map_cons,List.map_nil,show(((i+1:Nat)):Int)=(i:Int)+1 by omega] at ih
  rw[go_loop,← ih];simp(disch:=first|exact abt|fail) only[go_sem,QJ,d_a,hc]
theorem ny {l:List Tx} (hl:l.flatten.length≤100000000) (hn:l.length≤1000000):evL cfg Pp 0 [.d (.sl ((l).map BA))] []=some (.d (.tup [.sl (l.flatten.map AD),.sl ((El l).map (D.int .i64))]),[]):=by
 rw[o_df];have hj:=uq hl hn;have hw:=fun K=>l6 hn (K:=K) l 0 [] rfl (aco _) rfl
 simp only[nc0,List.map_nil,List.nil_append] at hw;have hv:Fm l= .d .AL∧l.flatten=[]∨Fm l= .own false 1 (l.flatten.map AD):=by
   unfold Fm GW;split
   · by_cases hz:l.flatten=[]
     · exact .inl ⟨by rw[hz];rfl,hz⟩
     · right
       rw[if_neg (by simpa using hz)]
   · exact .inr rfl
 rcases hv with⟨hv,hz⟩|hv
 · rw[hv] at hj
   rw[hz];simp(disch:=first|exact abt|fail) only[go_sem,QJ,Vp,hw,hj,List.map_nil]
 · rw[hv] at hj
   simp(disch:=first|exact abt|fail) only[go_sem,QJ,Vp,hw,hj]
end Go.Proofs.YtkdiccgfbfbjlaaGreat
namespace Go.Proofs.YtkdiccgfbfbjlaaGreat
open Go Go.Ev
variable [Sh]
set_option maxHeartbeats 2000000
def pn (s:Int):Int:=min (max s 0) 100
def aav (l:List Tx) (s:Int):Bool:=decide (0<l.length)&&decide (100*((BI l).length:Int)≤pn s*l.length)
theorem abg (s:Int):0≤pn s∧pn s≤100:=by unfold pn;omega
theorem bav (s:Int) {n:Nat} (hn:n≤1000000):0≤pn s*(n:Int)∧pn s*(n:Int)≤100000000:=by
 obtain⟨h1,h2⟩:=abg s;have h3:pn s*(n:Int)≤100*(n:Int):=Int.mul_le_mul_of_nonneg_right h2 abu;have h4:=Int.mul_nonneg h1 (Int.natCast_nonneg n);omega
theorem ij {l:List Tx} (hl:l.length≤1000000) (s:Int):evL cfg Q6 0 [.d (.sl ((l).map BA)),.d (.int .i64 (s))] []=some (.d (.bool (aav l s)),[]):=by
 rw[o_e9];have hwl:=gq l;have h1:=vf hl;have h2:=bav s hl;unfold aav;cases h:l with
 | nil=>
  have d_a:decide ((0:Int)>0)=false:=by simp<;>omega
  simp(disch:=first|exact abt|fail) only[go_sem,oA,Vm,d_a,List.map_nil,nc0,show decide (0<0)=false from rfl]
 | cons x r=>
  rw[← h];have hz:0<l.length:=by rw[h];simp
  have e:decide (0<l.length)=true:=by simpa using hz
  have hie:l.isEmpty=false:=by rw[h];rfl
  have hm:min (max s 0) 100=pn s:=rfl;have d_a:decide ((l.length:Int)>0)=true:=by simp<;>omega
  simp(disch:=first|exact abt|fail) only[go_sem,oA,Vm,d_a,e,hie,h1,hm]
