import Derived.Test.YtkdiccgfbfbjlaaGreatDmk
namespace Go.Proofs.YtkdiccgfbfbjlaaGreat
open Go Go.Ev
set_option maxHeartbeats 2000000
theorem r7 (n:Nat) (hn:n≤1000000000):evL cfg n_dc 0 [.d (.int .i64 ((n:Int)))] []=some (.own false 1 (List.replicate n .unk),[]):=by
 refine ap (n:=1) ?_;have hx:cfg.ext n_dc=some dc:=rfl;simp only[evFn,hx,allD,Option.map_some,Option.bind_some,dc];rw[if_pos ⟨by omega,by omega⟩,aa1]
 rfl
def joinV (l:List Tx):V:=if l.length≤1 then ownL (l.flatten.map byteD) else .own false 1 (l.flatten.map byteD)
theorem ad8 {l:List Tx} (hl:l.flatten.length≤1000000) (hn:l.length≤1000000) {K:List Kf}:∀ (r:List Tx) (i n:Nat),l.drop i=r→i≤l.length→n+r.flatten.length=l.flatten.length→
  go X_ai (.c (.loop ajt):: .b 0::K) ⟨[(0,.d (.sl ((l).map txt))),(1,.d (.sl [])),(5,.d (.int .i64 ((n:Int)))),(42,.d (.sl ((l).map txt))),(43,.d (.int .i64 ((l.length:Int)))),(44,.d (.int .i64 ((i:Int))))],[]⟩=
   go X_ai K ⟨[(0,.d (.sl ((l).map txt))),(1,.d (.sl [])),(5,.d (.int .i64 ((l.flatten.length:Int)))),(42,.d (.sl ((l).map txt))),(43,.d (.int .i64 ((l.length:Int)))),(44,.d (.int .i64 ((l.length:Int)))),(45,.d (.bool (false)))],[]⟩
 | [],i,n,hr,hi,ha=>by
  have h1:=cf hr;have:i=l.length:=yp;subst this;have d_a:decide ((l.length:Int)<l.length)=false:=by simp<;>omega
  have e:n=l.flatten.length:=by simpa using ha
  rw[go_loop,← e];simp(disch:=first|exact yo|fail) only[go_sem,X_ai,d_a]
 | x::r,i,n,hr,hi,ha=>by
  obtain⟨hlt,hc,hr'⟩:=da hr;have d_a:decide ((i:Int)<l.length)=true:=by simp<;>omega
  rw[List.flatten_cons,zo] at ha;have ih:=ad8 hl hn (K:=K) r (i+1) (n+x.length) hr' yp yp;rw[show(((i+1:Nat)):Int)=(i:Int)+1 by omega,show(((n+x.length:Nat)):Int)=(n:Int)+x.length by omega] at ih
  have d_b:decide ((x.length:Int)>9223372036854775807-n)=false:=by simp<;>omega
  rw[go_loop,← ih];simp(disch:=first|exact yo|fail) only[go_sem,X_ai,d_a,d_b,hc]
theorem ad9 {l:List Tx} (hl:l.flatten.length≤1000000) (hn:l.length≤1000000):∀ (r:List Tx) (i:Nat) (acc:Tx),l.drop i=r→i≤l.length→acc.length+r.flatten.length≤1000000→
  go X_ai [.c (.loop ajs),.b 2,.c (.seq ag2 .ret)] ⟨[(1,.d (.sl [])),(8,.own false 1 (acc.map byteD++List.replicate r.flatten.length .unk)),(9,.d (.int .i64 ((acc.length:Int)))),(70,.d (.sl ((l).map txt))),(71,.d (.int .i64 ((l.length:Int)))),(72,.d (.int .i64 ((i:Int))))],[]⟩=
   some (.own false 1 ((acc++r.flatten).map byteD),[])
 | [],i,acc,hr,hi,ha=>by
  have h1:=cf hr;have d_a:decide ((i:Int)<l.length)=false:=by simp<;>omega
  rw[go_loop];simp(disch:=first|exact yo|fail) only[go_sem,X_ai,d_a,List.flatten_nil,List.append_nil]
 | x::r,i,acc,hr,hi,ha=>by
  obtain⟨hlt,hc,hr'⟩:=da hr;have d_a:decide ((i:Int)<l.length)=true:=by simp<;>omega
  rw[List.flatten_cons,zo] at ha;have ih:=ad9 hl hn r (i+1) (acc++x) hr' yp (by rw[zo];omega)
  rw[aam,← List.flatten_cons,List.map_append,zo,show(((i+1:Nat)):Int)=(i:Int)+1 by omega,show(((acc.length+x.length:Nat)):Int)=(acc.length:Int)+x.length by omega] at ih
  have c1:=qw (some 81) (.slot 8) acc.length (x.length+r.flatten.length) (acc.map byteD) [] (x.length+r.flatten.length) .unk yt rfl yt;have c2:=qw (some 88) (.slot 8) acc.length (x.length+r.flatten.length) (acc.map byteD) (x.map byteD) (x.length+r.flatten.length) .unk yt rfl yt;simp only[List.append_nil,List.length_nil,Nat.sub_zero,yz,Nat.add_sub_cancel_left,nc0] at c1 c2;rw[go_loop,← ih];simp(disch:=first|exact yo|fail) only[go_sem,X_ai,d_a,hc,c1,c2,List.flatten_cons,List.length_replicate,Nat.add_sub_cancel_left,Int.add_zero]
theorem ry {l:List Tx} (hl:l.flatten.length≤1000000) (hn:l.length≤1000000):evL cfg n_ai 0 [.d (.sl ((l).map txt)),.d (.sl [])] []=some (joinV l,[]):=by
 cases l with
 |nil=>exact ap (n:=3) yr
 | cons x r=>
  cases r with
  | nil=>
   rw[o_ai];have e:joinV [x]=ownL (x.map byteD):=by simp[joinV]
   rw[e];have hx:x.length≤1000000:=by simpa using hl
   cases x with
   |nil=>simp(disch:=first|exact yo|fail) only[go_sem,X_ai,c_ai,List.map_nil,show((1:Int)==0)=false from rfl,show((0+1:Int)==0)=false from rfl];rfl
   | cons c x=>
    rw[List.length_cons] at hx;simp(disch:=first|exact yo|fail) only[go_sem,X_ai,c_ai,show((1:Int)==0)=false from rfl,show((0+1:Int)==0)=false from rfl];rfl
  | cons y r=>
   have e:joinV (x::y::r)= .own false 1 ((x++(y::r).flatten).map byteD):=by simp[joinV]
   have hs:=fun K=>ad8 (l:=x::y::r) hl hn (K:=K) (x::y::r) 0 0 rfl (aad _) yp
   have hl':x.length+(y::r).flatten.length≤1000000:=by rw[← zo,← List.flatten_cons];exact hl
   have hf:=ad9 (l:=y::r) yp (by simp only[List.length_cons] at hn ⊢;omega) (y::r) 0 x rfl (aad _) hl'
   have c2:=qw (some 68) (.slot 8) 0 (x.length+(y::r).flatten.length) [] (x.map byteD) (x.length+(y::r).flatten.length) .unk rfl rfl yt;rw[e,o_ai];have a1:(((r.length+1+1:Nat):Int)==0)=false:=by simp;omega
   have a2:(((r.length+1+1:Nat):Int)==1)=false:=by simp;omega
   simp only[nc0,List.length_cons,List.map_cons] at hs hf;simp only[List.length_cons] at hn;have a3:(x::y::r).flatten.length=x.length+(y::r).flatten.length:=by rw[List.flatten_cons,zo]
   have hz:=r7 (x.length+(y::r).flatten.length) yp;rw[a3] at hs;simp only[List.nil_append,yz,Nat.add_sub_cancel_left] at c2;have e5:List.take (x.length+(y::r).flatten.length) (List.replicate (x.length+(y::r).flatten.length) D.unk)=List.replicate (x.length+(y::r).flatten.length) D.unk:=aaz yt;simp(disch:=first|exact yo|fail) only[go_sem,X_ai,c_ai,a1,a2,hs,hz,nc0,List.length_replicate,e5,c2,show decide ((0:Int)>0)=false from rfl]
   have e6:List.drop (Int.toNat 1) (List.take (r.length+1+1) (txt x::txt y::r.map txt))=txt y::r.map txt:=by
    rw[aaz yt];rfl
   rw[e6,List.length_cons,yz];exact hf
end Go.Proofs.YtkdiccgfbfbjlaaGreat
namespace Go.Proofs.YtkdiccgfbfbjlaaGreat
open Go Go.Ev
set_option maxHeartbeats 2000000
def lensT (l:List Tx):List Int:=l.map fun x=>(x.length:Int)
theorem kr {l:List Tx} (hn:l.length≤1000000) {K:List Kf}:∀ (r:List Tx) (i:Nat) (acc:List Int),l.drop i=r→i≤l.length→acc.length=i→
  go X_bu (.c (.loop a49):: .b 0::K) ⟨[(0,.d (.sl ((l).map txt))),(4,.own false 1 (acc.map (D.int .i64))),(10,.d (.sl ((l).map txt))),(11,.d (.int .i64 ((l.length:Int)))),(12,.d (.int .i64 ((i:Int))))],[]⟩=
   go X_bu K ⟨[(0,.d (.sl ((l).map txt))),(4,.own false 1 ((acc++lensT r).map (D.int .i64))),(10,.d (.sl ((l).map txt))),(11,.d (.int .i64 ((l.length:Int)))),(12,.d (.int .i64 ((l.length:Int)))),(13,.d (.bool (false)))],[]⟩
 | [],i,acc,hr,hi,ha=>by
  have h1:=cf hr;have:i=l.length:=yp;subst this;have d_a:decide ((l.length:Int)<l.length)=false:=by simp<;>omega
  rw[go_loop,show acc++lensT []=acc by simp[lensT]]
  simp(disch:=first|exact yo|fail) only[go_sem,X_bu,d_a]
 | x::r,i,acc,hr,hi,ha=>by
  obtain⟨hlt,hc,hr'⟩:=da hr;have d_a:decide ((i:Int)<l.length)=true:=by simp<;>omega
  have ih:=kr hn (K:=K) r (i+1) (acc++[(x.length:Int)]) hr' yp (by simp;omega)
  have e1:acc++[(x.length:Int)]++lensT r=acc++lensT (x::r):=by simp[lensT]
  rw[e1,List.map_append,List.map_cons,List.map_nil,show(((i+1:Nat)):Int)=(i:Int)+1 by omega] at ih
  rw[go_loop,← ih];simp(disch:=first|exact yo|fail) only[go_sem,X_bu,d_a,hc]
theorem mg {l:List Tx} (hl:l.flatten.length≤1000000) (hn:l.length≤1000000):evL cfg n_bu 0 [.d (.sl ((l).map txt))] []=some (.d (.tup [.sl (l.flatten.map byteD),.sl ((lensT l).map (D.int .i64))]),[]):=by
 rw[o_bu];have hj:=ry hl hn;have hw:=fun K=>kr hn (K:=K) l 0 [] rfl (aad _) rfl
 simp only[nc0,List.map_nil,List.nil_append] at hw;have hv:joinV l= .d .nilS∧l.flatten=[]∨joinV l= .own false 1 (l.flatten.map byteD):=by
   unfold joinV ownL;split
   · by_cases hz:l.flatten=[]
     · exact .inl ⟨by rw[hz];rfl,hz⟩
     · right
       rw[if_neg (by simpa using hz)]
   · exact .inr rfl
 rcases hv with⟨hv,hz⟩|hv
 · rw[hv] at hj
   rw[hz];simp(disch:=first|exact yo|fail) only[go_sem,X_bu,c_bu,hw,hj,List.map_nil]
 · rw[hv] at hj
   simp(disch:=first|exact yo|fail) only[go_sem,X_bu,c_bu,hw,hj]
end Go.Proofs.YtkdiccgfbfbjlaaGreat
namespace Go.Proofs.YtkdiccgfbfbjlaaGreat
open Go Go.Ev
set_option maxHeartbeats 2000000
def kj (s:Int):Int:=min (max s 0) 100
def o9 (l:List Tx) (s:Int):Bool:=decide (0<l.length)&&decide (100*((riseT l).length:Int)≤kj s*l.length)
theorem yb (s:Int):0≤kj s∧kj s≤100:=by unfold kj;omega
theorem se (s:Int) {n:Nat} (hn:n≤1000000):0≤kj s*(n:Int)∧kj s*(n:Int)≤100000000:=by
 obtain⟨h1,h2⟩:=yb s;have h3:kj s*(n:Int)≤100*(n:Int):=Int.mul_le_mul_of_nonneg_right h2 yp;have h4:=Int.mul_nonneg h1 (Int.natCast_nonneg n);omega
theorem kq {l:List Tx} (hl:l.length≤1000000) (s:Int):evL cfg n_cg 0 [.d (.sl ((l).map txt)),.d (.int .i64 (s))] []=some (.d (.bool (o9 l s)),[]):=by
 rw[o_cg];have hwl:=bw l;have h1:=sj hl;have h2:=se s hl;unfold o9;cases h:l with
 | nil=>
  have d_a:decide ((0:Int)>0)=false:=by simp<;>omega
  simp(disch:=first|exact yo|fail) only[go_sem,X_cg,c_cg,d_a,List.map_nil,nc0,show decide (0<0)=false from rfl]
 | cons x r=>
  rw[← h];have hz:0<l.length:=by rw[h];simp
  have e:decide (0<l.length)=true:=by simpa using hz
  have hie:l.isEmpty=false:=by rw[h];rfl
  have hm:min (max s 0) 100=kj s:=rfl;have d_a:decide ((l.length:Int)>0)=true:=by simp<;>omega
  simp(disch:=first|exact yo|fail) only[go_sem,X_cg,c_cg,d_a,e,hie,h1,hm]
end Go.Proofs.YtkdiccgfbfbjlaaGreat
namespace Go.Proofs.YtkdiccgfbfbjlaaGreat
open Go Go.Ev
set_option maxHeartbeats 4000000
set_option maxRecDepth 100000
def Aok (d:Nat) (ks:List Nat) (A:List (Cel×V)):Prop:=∀ p∈A,p.1.d=d∧p.1.k ∉ ks∧∃ x,p.2= .d x
section
variable {d:Nat} {ks:List Nat} {A:List (Cel×V)} (h:Aok d ks A)
include h
theorem lkN (k o:Nat) (hk:k∈ks) (r:List (Cel×V)):lk (A++r) ⟨d,k,o⟩=lk r ⟨d,k,o⟩:=by
 induction A with
 |nil=>rfl
 | cons p A ih=>
  obtain⟨_,h1,_⟩:=h p yt;obtain⟨c,v⟩:=p;rw[List.cons_append,lk,if_neg (fun e=>by rw[e] at h1;exact h1 hk)]
  exact ih fun q hq=>h q (by simp[hq])
theorem stN (k o:Nat) (hk:k∈ks) (v:V) (r:List (Cel×V)):st (A++r) ⟨d,k,o⟩ v=A++st r ⟨d,k,o⟩ v:=by
 induction A with
 |nil=>rfl
 | cons p A ih=>
  obtain⟨_,h1,_⟩:=h p yt;obtain⟨c,u⟩:=p;rw[List.cons_append,st,if_neg (fun e=>by rw[e] at h1;exact h1 hk),ih fun q hq=>h q (by simp[hq])]
  rfl
theorem ut (e:Nat) (r:List (Cel×V)):settleM e (A++r)=A++settleM e r:=by
 induction A with
 |nil=>rfl
 | cons p A ih=>
  obtain⟨_,_,x,h2⟩:=h p yt;obtain⟨c,u⟩:=p;simp only at h2;subst h2;rw[List.cons_append,settleM,ih fun q hq=>h q (by simp[hq])]
  rfl
theorem aue (e:Nat) (he:d<e) (r:List (Cel×V)):leaveM e (A++r)=A++leaveM e r:=by
 induction A with
 |nil=>rfl
 | cons p A ih=>
  obtain⟨h1,_,x,h2⟩:=h p yt;obtain⟨c,u⟩:=p;simp only at h1 h2;subst h2;rw[List.cons_append,leaveM,if_pos yp,ih fun q hq=>h q (by simp[hq])]
  rfl
theorem cutN (e:Nat) (he:d≤e) (r:List (Cel×V)):cutMem e (A++r)=A++cutMem e r:=by
 induction A with
 |nil=>rfl
 | cons p A ih=>
  obtain⟨h1,_,x,h2⟩:=h p yt;obtain⟨c,u⟩:=p;simp only at h1;rw[List.cons_append,cutMem,if_pos yp,ih fun q hq=>h q (by simp[hq])]
  rfl
theorem allN (e:Nat) (r:List (Cel×V)):(A++r).all (fun p=>p.2.upTo e)=r.all (fun p=>p.2.upTo e):=by
 induction A with
 |nil=>rfl
 | cons p A ih=>
  obtain⟨_,_,x,h2⟩:=h p yt;obtain⟨c,u⟩:=p;simp only at h2;subst h2;rw[List.cons_append,List.all_cons,ih fun q hq=>h q (by simp[hq])]
  rfl
end
structure Op where
 co:Int
 ch:Int
 ve:Int
 sh:Int
 ro:Int
 st:Int
def Op.d (o:Op):D:=optD o.co o.ch o.ve o.sh o.ro o.st
def OpOk (o:Op):Prop:=(o.co=0∨o.co=4)∧64≤o.ch∧o.ch≤65536∧(o.ve=1∨o.ve=2)
def ekN (o:Op) (ek:Int):Int:=if o.ve=2 then orI .i64 ek 2 else ek
def smD (p:Int×List UInt8):D:= .agg [.int .i64 p.1,.int .i64 1,.sl (p.2.map byteD)]
def ownS (L:List (Int×List UInt8)):V:=match L with
 | []=> .d .nilS
 |y::r=> .own false 3 ((y::r).map smD)
theorem vu:ownS []= .d .nilS:=rfl
theorem qf {L:List (Int×List UInt8)} (h:L≠[]):ownS L= .own false 3 (L.map smD):=by
 cases L with
 |nil=>exact absurd rfl h
 |cons y r=>rfl
abbrev wB26 (o:Op) (ek wd:Int) (L:List (Int×List UInt8)):List (Cel×V):=
 [(⟨0,26,0⟩,.d (.int .i64 (1))),(⟨0,26,1⟩,.d (.int .i64 (o.co))),(⟨0,26,2⟩,.d (.int .i64 (o.ch))),(⟨0,26,3⟩,.d (.int .i64 (o.ve))),(⟨0,26,4⟩,.d (.int .i64 (o.sh))),(⟨0,26,5⟩,.d (.int .i64 (o.ro))),(⟨0,26,6⟩,.d (.int .i64 (o.st))),(⟨0,26,7⟩,.d (.int .i64 (ek))),(⟨0,26,8⟩,.d (.int .i64 (wd))),(⟨0,26,9⟩,ownS L),(⟨0,26,10⟩,.d (.int .i64 (0)))]
section
variable {A:List (Cel×V)} (hA:Aok 0 [26] A)
include hA
theorem vo (dp:Nat) {o:Op} (ho:OpOk o) (ek wd:Int) (L:List (Int×List UInt8)) (hL:L.length≤10) (k:Int) {b:List UInt8} (hb:b.length≤60000) (B:List (Cel×V)) (hB:B=[]∨1≤dp∧∃ p q:D,B=[(⟨1,8,0⟩,.d p),(⟨1,8,1⟩,.d q)]):
   ∃ x:List UInt8,evL cfg n_bo (dp+1) [.ref 0 26 0,.d (.int .i64 (k)),.d (.sl ((b).map byteD))] (A++(wB26 o ek wd L++B))=some (.d (.tup []),A++(wB26 o ek wd (L++[(k,x)])++B)):=by
 obtain⟨c1,c2,c3,c4⟩:=ho;obtain⟨x,h⟩:=a4n (b:=b) hb c1 yp c3;have z1:=fun o=>lkN hA 26 o yt
 have z2:=fun o=>stN hA 26 o yt
 have z3:=ut hA;have z4:=aue hA (dp+1) (Nat.zero_lt_succ _);have d_a:decide ((b.length:Int)>262144)=false:=by simp<;>omega
 refine⟨x,?_⟩;rw[e_bo (dp+1) _ _ rfl rfl];simp only[wB26,qf (show L++[(k,x)]≠[] by simp),List.map_append,List.map_cons,List.map_nil]
 by_cases hz:L=[]
 · subst hz
   rw[vu];rcases hB with rfl|⟨hd,p,q,rfl⟩
   · simp only[List.append_nil]
     simp(disch:=first|exact yo|fail) only[go_sem,X_bo,c_bo,h,z1,z2,z3,z4,d_a,Int.reduceBNe,smD,yz,List.map_nil,List.nil_append]
   · have hd1:1<dp+1:=yp
     simp only[List.cons_append,List.nil_append];simp(disch:=first|exact yo|fail) only[go_sem,X_bo,c_bo,h,z1,z2,z3,z4,d_a,hd,hd1,Int.reduceBNe,smD,yz,List.map_nil,List.nil_append]
 · rw[qf hz]
   rcases hB with rfl|⟨hd,p,q,rfl⟩
   · simp only[List.append_nil]
     simp(disch:=first|exact yo|fail) only[go_sem,X_bo,c_bo,h,z1,z2,z3,z4,d_a,Int.reduceBNe,smD,yz]
   · have hd1:1<dp+1:=yp
     simp only[List.cons_append,List.nil_append];simp(disch:=first|exact yo|fail) only[go_sem,X_bo,c_bo,h,z1,z2,z3,z4,d_a,hd,hd1,Int.reduceBNe,smD,yz]
theorem we (dp:Nat) {o:Op} (ho:OpOk o) (ek wd:Int) (L:List (Int×List UInt8)) (hL:L.length≤10) (k:Int) {sg:Bool} {l:List Int} (h:Fine sg l) (h512:l.length≤512) (B:List (Cel×V)) (hB:B=[]∨1≤dp∧∃ p q:D,B=[(⟨1,8,0⟩,.d p),(⟨1,8,1⟩,.d q)]):
   ∃ x,evL cfg n_bd (dp+1) [.ref 0 26 0,.d (.int .i64 (k)),.d (i64s l),.d (.bool (sg))] (A++(wB26 o ek wd L++B))=some (.d (.tup []),A++(wB26 o (ekN o ek) wd (L++[(k,x)])++B)):=by
 obtain⟨b,b1,b2⟩:=enc_ans h h512 ho.2.2.2;have z1:=fun o=>lkN hA 26 o yt
 have z2:=fun o=>stN hA 26 o yt
 have z3:=ut hA;have z4:=aue hA (dp+1) (Nat.zero_lt_succ _);have zc:=cutN hA (dp+1) (aad _);have za:=allN hA;have hB':B=[]∨1≤dp+1∧∃ p q:D,B=[(⟨1,8,0⟩,.d p),(⟨1,8,1⟩,.d q)]:=hB.imp id fun h=>⟨by omega,h.2⟩
 have hne:=fun x=>qf (show L++[(k,x)]≠[] by simp)
 rcases ho.2.2.2 with hv|hv
 · obtain⟨x,hp⟩:=vo hA (dp+1) ho ek wd L hL k (b:=b) yp B hB'
   have en:ekN o ek=ek:=by unfold ekN;rw[if_neg yp]
   refine⟨x,?_⟩;rw[en];rw[e_bd (dp+1) _ _ rfl rfl];unfold i64s at *;simp only[wB26,hv,hne] at hp b2 ⊢;by_cases hz:L=[]
   · subst hz
     rw[vu] at hp ⊢;rcases hB with rfl|⟨hd,p,q,rfl⟩
     · simp only[List.append_nil] at hp ⊢
       simp(disch:=first|exact yo|fail) only[go_sem,X_bd,c_bd,b2,hp,z1,z2,z3,z4,zc,za,Int.reduceBNe,Int.reduceBEq]
     · have hd1:1<dp+1:=yp
       have hd2:1≤dp+1:=yp;simp only[List.cons_append,List.nil_append] at hp ⊢;simp(disch:=first|exact yo|fail) only[go_sem,X_bd,c_bd,b2,hp,z1,z2,z3,z4,zc,za,hd,hd1,hd2,Int.reduceBNe,Int.reduceBEq]
   · rw[qf hz] at hp ⊢
     rcases hB with rfl|⟨hd,p,q,rfl⟩
     · simp only[List.append_nil] at hp ⊢
       simp(disch:=first|exact yo|fail) only[go_sem,X_bd,c_bd,b2,hp,z1,z2,z3,z4,zc,za,Int.reduceBNe,Int.reduceBEq]
     · have hd1:1<dp+1:=yp
       have hd2:1≤dp+1:=yp;simp only[List.cons_append,List.nil_append] at hp ⊢;simp(disch:=first|exact yo|fail) only[go_sem,X_bd,c_bd,b2,hp,z1,z2,z3,z4,zc,za,hd,hd1,hd2,Int.reduceBNe,Int.reduceBEq]
 · obtain⟨x,hp⟩:=vo hA (dp+1) ho (orI .i64 ek 2) wd L hL k (b:=b) yp B hB'
   have en:ekN o ek=orI .i64 ek 2:=by unfold ekN;rw[if_pos hv]
   refine⟨x,?_⟩;rw[en];rw[e_bd (dp+1) _ _ rfl rfl];unfold i64s at *;simp only[wB26,hv,hne] at hp b2 ⊢;by_cases hz:L=[]
   · subst hz
     rw[vu] at hp ⊢;rcases hB with rfl|⟨hd,p,q,rfl⟩
     · simp only[List.append_nil] at hp ⊢
       simp(disch:=first|exact yo|fail) only[go_sem,X_bd,c_bd,b2,hp,z1,z2,z3,z4,zc,za,Int.reduceBNe,Int.reduceBEq]
     · have hd1:1<dp+1:=yp
       have hd2:1≤dp+1:=yp;simp only[List.cons_append,List.nil_append] at hp ⊢;simp(disch:=first|exact yo|fail) only[go_sem,X_bd,c_bd,b2,hp,z1,z2,z3,z4,zc,za,hd,hd1,hd2,Int.reduceBNe,Int.reduceBEq]
   · rw[qf hz] at hp ⊢
     rcases hB with rfl|⟨hd,p,q,rfl⟩
     · simp only[List.append_nil] at hp ⊢
       simp(disch:=first|exact yo|fail) only[go_sem,X_bd,c_bd,b2,hp,z1,z2,z3,z4,zc,za,Int.reduceBNe,Int.reduceBEq]
     · have hd1:1<dp+1:=yp
       have hd2:1≤dp+1:=yp;simp only[List.cons_append,List.nil_append] at hp ⊢;simp(disch:=first|exact yo|fail) only[go_sem,X_bd,c_bd,b2,hp,z1,z2,z3,z4,zc,za,hd,hd1,hd2,Int.reduceBNe,Int.reduceBEq]
end
end Go.Proofs.YtkdiccgfbfbjlaaGreat
namespace Go.Proofs.YtkdiccgfbfbjlaaGreat
open Go Go.Ev
set_option maxHeartbeats 8000000
set_option maxRecDepth 100000
theorem ad0 {tx:List Tx} (ht:∀ x∈tx,x.length≤200):Fine false (lensT tx):=fun v hv=>by
 obtain⟨x,hx,rfl⟩:=aas.1 hv;have:=ht x hx;exact⟨by unfold inI;omega,fun _=>by omega⟩
theorem wl:∀ {tx:List Tx},(∀ x∈tx,x.length≤200)→tx.flatten.length≤200*tx.length
 | [],_=>by simp
 | x::r,h=>by
  have:=wl (tx:=r) fun y hy=>h y (by simp[hy])
  have:=h x yt;rw[List.flatten_cons,zo,List.length_cons];omega
theorem idx_fine {l ws:List Tx} (hw:ws.length≤100):Fine false (idxT l ws):=fun v hv=>by
 obtain⟨x,hx,rfl⟩:=aas.1 hv;have:=my x ws;exact⟨by unfold inI;omega,fun _=>by omega⟩
section
variable {A:List (Cel×V)} (hA:Aok 0 [26] A)
include hA
theorem lkE (k o:Nat) (r:List (Cel×V)):lk (A++r) ⟨1,k,o⟩=lk r ⟨1,k,o⟩:=by
 induction A with
 |nil=>rfl
 | cons p A ih=>
  obtain⟨h1,_,_⟩:=hA p yt;obtain⟨c,v⟩:=p;simp only at h1;rw[List.cons_append,lk,if_neg (fun e=>by rw[e] at h1;cases h1)]
  exact ih fun q hq=>hA q (by simp[hq])
theorem stE (k o:Nat) (v:V) (r:List (Cel×V)):st (A++r) ⟨1,k,o⟩ v=A++st r ⟨1,k,o⟩ v:=by
 induction A with
 |nil=>rfl
 | cons p A ih=>
  obtain⟨h1,_,_⟩:=hA p yt;obtain⟨c,u⟩:=p;simp only at h1;rw[List.cons_append,st,if_neg (fun e=>by rw[e] at h1;cases h1),ih fun q hq=>hA q (by simp[hq])]
  rfl
theorem afk {o:Op} (ho:OpOk o) {tx:List Tx} (htl:tx.length≤100) (ht:∀ x∈tx,x.length≤200):
  ∃ y1 y2,evL cfg n_av 1 [.ref 0 26 0,.d (.sl (tx.map txt)),.d (.bool (false))] (A++wB26 o 0 0 [])=some (.d (.tup []),A++wB26 o (ekN o 0) 0 [(1,y1),(2,y2)]):=by
 have hf:=wl ht;have hj:=mg (l:=tx) yp yp;obtain⟨y1,q1⟩:=vo hA 1 ho 0 0 [] yt 1 (b:=tx.flatten) yp [] (.inl rfl);obtain⟨y2,q2⟩:=we hA 1 ho 0 0 [(1,y1)] yt 2 (ad0 ht) (by unfold lensT;rw[yz];omega) [] (.inl rfl)
 have z1:=fun o=>lkN hA 26 o yt
 have z2:=fun o=>stN hA 26 o yt
 have z3:=ut hA;have z4:=aue hA 1 (Nat.zero_lt_succ _);have zc:=cutN hA 1 (aad _);have za:=allN hA;refine⟨y1,y2,?_⟩;rw[e_av 1 _ _ rfl rfl];simp only[wB26,ownS,List.cons_append,List.nil_append,List.append_nil,i64s,smD,List.map_cons,List.map_nil] at q1 q2 ⊢;simp(disch:=first|exact yo|fail) only[go_sem,X_av,c_av,hj,q1,q2,z1,z2,z3,z4,zc,za]
theorem afj {o:Op} (ho:OpOk o) {tx:List Tx} (htl:tx.length≤100) (ht:∀ x∈tx,x.length≤200):
  ∃ y1 y2 y3,evL cfg n_av 1 [.ref 0 26 0,.d (.sl (tx.map txt)),.d (.bool (true))] (A++wB26 o 0 0 [])=some (.d (.tup []),A++wB26 o (ekN o (ekN o 1)) ((riseT tx).length:Int) [(1,y1),(2,y2),(3,y3)]):=by
 have hr:=bw tx;have htr:∀ x∈riseT tx,x.length≤200:=fun x hx=>ht x (gu.1 hx)
 have hf:=wl htr;have hm:=wx (l:=tx) yp (fun x hx=>by have:=ht x hx;omega)
 have hj:=mg (l:=riseT tx) yp yp;have hB:[(⟨1,8,0⟩,V.d (.sl ((riseT tx).map txt))),(⟨1,8,1⟩,V.d (.sl ((idxT tx (riseT tx)).map (D.int .i64))))]=([]:List (Cel×V))∨1≤1∧∃ p q:D,[(⟨1,8,0⟩,V.d (.sl ((riseT tx).map txt))),(⟨1,8,1⟩,V.d (.sl ((idxT tx (riseT tx)).map (D.int .i64))))]=[((⟨1,8,0⟩:Cel),V.d p),(⟨1,8,1⟩,V.d q)]:= .inr ⟨y7 _,_,_,rfl⟩
 obtain⟨y1,q1⟩:=we hA 1 ho 1 ((riseT tx).length:Int) [] yt 1 (idx_fine (l:=tx) (ws:=riseT tx) yp) (by unfold idxT;rw[yz];omega) _ hB
 obtain⟨y2,q2⟩:=we hA 1 ho (ekN o 1) ((riseT tx).length:Int) [(1,y1)] yt 2 (ad0 htr) (by unfold lensT;rw[yz];omega) _ hB
 obtain⟨y3,q3⟩:=vo hA 1 ho (ekN o (ekN o 1)) ((riseT tx).length:Int) [(1,y1),(2,y2)] yt 3 (b:=(riseT tx).flatten) yp _ hB;have z1:=fun o=>lkN hA 26 o yt
 have z2:=fun o=>stN hA 26 o yt
 have z3:=ut hA;have z4:=aue hA 1 (Nat.zero_lt_succ _);have zc:=cutN hA 1 (aad _);have za:=allN hA;refine⟨y1,y2,y3,?_⟩;rw[e_av 1 _ _ rfl rfl];simp only[wB26,ownS,List.cons_append,List.nil_append,List.append_nil,i64s,smD,List.map_cons,List.map_nil] at q1 q2 q3 ⊢;have w1:=lkE hA;have w2:=stE hA;simp(disch:=first|exact yo|fail) only[go_sem,X_av,c_av,hm,hj,q1,q2,q3,z1,z2,z3,z4,zc,za,w1,w2,yz]
end
def nodT:D:= .agg [.int .i64 7,.sl [],.sl [],.int .i64 0,.int .i64 0,.int .i64 0,.int .i64 0,.int .i64 2]
abbrev mA (h:List Bool) (tx:List Tx) (o:Op):List (Cel×V):=[(⟨0,4,0⟩,.d (.int .i64 (7))),(⟨0,4,1⟩,.d (.sl [])),(⟨0,4,2⟩,.d (.sl [])),(⟨0,4,3⟩,.d (.int .i64 (0))),(⟨0,4,4⟩,.d (.int .i64 (0))),(⟨0,4,5⟩,.d (.int .i64 (0))),(⟨0,4,6⟩,.d (.int .i64 (0))),(⟨0,4,7⟩,.d (.int .i64 (2))),(⟨0,6,0⟩,.d (ku h)),(⟨0,6,1⟩,.d (.sl [])),(⟨0,6,2⟩,.d (.sl [])),(⟨0,6,3⟩,.d (.sl (tx.map txt))),(⟨0,6,4⟩,.d (.sl [])),(⟨0,7,0⟩,.d (.int .i64 (o.co))),(⟨0,7,1⟩,.d (.int .i64 (o.ch))),(⟨0,7,2⟩,.d (.int .i64 (o.ve))),(⟨0,7,3⟩,.d (.int .i64 (o.sh))),(⟨0,7,4⟩,.d (.int .i64 (o.ro))),(⟨0,7,5⟩,.d (.int .i64 (o.st))),(⟨0,8,0⟩,.d (.int .i64 (0))),(⟨0,8,1⟩,.d (.int .i64 (0)))]
theorem mA_ok (h:List Bool) (tx:List Tx) (o:Op):Aok 0 [26] (mA h tx o):=by
 intro p hp;simp only[mA,zr,aay,or_false] at hp;rcases hp with rfl|rfl|rfl|rfl|rfl|rfl|rfl|rfl|rfl|rfl|rfl|rfl|rfl|rfl|rfl|rfl|rfl|rfl|rfl|rfl|rfl<;>exact⟨rfl,by simp,_,rfl⟩
theorem afd {o:Op} (ho:OpOk o) (hck:evL cfg n_bk 0 [.d o.d] []=some (.d (.int .i64 (0)),[])) (h:List Bool) (hl:h.length≤200) (hn:h.all id=true) (tx:List Tx) (htl:tx.length≤100) (ht:∀ x∈tx,x.length≤200) (hw:o9 tx o.sh=false):
  ∃ (y1 y2:List UInt8),evL cfg n_ag 0 [.d nodT,.d (.int .i64 (1)),.d (colD h tx),.d o.d] []=some (.d (.tup [.agg [.int .i64 (ekN o 0),.int .i64 0],.sl [smD (1,y1),smD (2,y2)],.int .i64 0]),[]):=by
 have hh:=a3j h yp tx hn;have hwo:=kq (l:=tx) yp o.sh;rw[hw] at hwo;obtain⟨y1,y2,q⟩:=afk (mA_ok h tx o) ho htl ht;refine⟨y1,y2,?_⟩;rw[o_ag];simp only[mA,wB26,ownS,List.cons_append,List.nil_append,smD,List.map_cons,List.map_nil] at q;simp only[colD,nodT,Op.d,optD] at hh hck ⊢;simp(disch:=first|exact yo|fail) only[go_sem,X_ag,c_ag,hck,hh,hwo,q,Int.reduceBEq,Int.reduceBNe,smD]
theorem afc {o:Op} (ho:OpOk o) (hck:evL cfg n_bk 0 [.d o.d] []=some (.d (.int .i64 (0)),[])) (h:List Bool) (hl:h.length≤200) (hn:h.all id=true) (tx:List Tx) (htl:tx.length≤100) (ht:∀ x∈tx,x.length≤200) (hw:o9 tx o.sh=true):
  ∃ (y1 y2 y3:List UInt8),evL cfg n_ag 0 [.d nodT,.d (.int .i64 (1)),.d (colD h tx),.d o.d] []=some (.d (.tup [.agg [.int .i64 (ekN o (ekN o 1)),.int .i64 ((riseT tx).length:Int)],.sl [smD (1,y1),smD (2,y2),smD (3,y3)],.int .i64 0]),[]):=by
 have hh:=a3j h yp tx hn;have hwo:=kq (l:=tx) yp o.sh;rw[hw] at hwo;obtain⟨y1,y2,y3,q⟩:=afj (mA_ok h tx o) ho htl ht;refine⟨y1,y2,y3,?_⟩;rw[o_ag];simp only[mA,wB26,ownS,List.cons_append,List.nil_append,smD,List.map_cons,List.map_nil] at q;simp only[colD,nodT,Op.d,optD] at hh hck ⊢;simp(disch:=first|exact yo|fail) only[go_sem,X_ag,c_ag,hck,hh,hwo,q,Int.reduceBEq,Int.reduceBNe,smD]
