import Derived.Test.YtkdiccgfbfbjlaaGreatWor
import Derived.Test.YtkdiccgfbfbjlaaGreatCoZ
import Derived.Test.YtkdiccgfbfbjlaaGreatTyF
import Derived.Test.YtkdiccgfbfbjlaaGreatSrG
set_option linter.unusedSectionVars false
namespace Go.Proofs.YtkdiccgfbfbjlaaGreat
open Go Go.Ev
variable [Sh]
set_option maxHeartbeats 4000000
set_option maxRecDepth 100000
def Aok (d:Nat) (ks:List Nat) (A:List (Cel×V)):Prop:=∀ p∈A,p.1.d=d∧p.1.k ∉ ks∧∃ x,p.2= .d x
section
variable {d:Nat} {ks:List Nat} {A:List (Cel×V)} (h:Aok d ks A)
include h
theorem lkN (k o:Nat) (hk:k∈ks) (r:List (Cel×V)):lk (A++r) ⟨d,k,o⟩=lk r ⟨d,k,o⟩:=by
 induction A with
 |nil=>rfl
 | cons p A ih=>
  obtain⟨_,h1,_⟩:=h p abw;obtain⟨c,v⟩:=p;rw[List.cons_append,lk,if_neg (fun e=>by rw[e] at h1;exact h1 hk)]
  exact ih fun q hq=>h q (by simp[hq])
theorem stN (k o:Nat) (hk:k∈ks) (v:V) (r:List (Cel×V)):st (A++r) ⟨d,k,o⟩ v=A++st r ⟨d,k,o⟩ v:=by
 induction A with
 |nil=>rfl
 | cons p A ih=>
  obtain⟨_,h1,_⟩:=h p abw;obtain⟨c,u⟩:=p;rw[List.cons_append,st,if_neg (fun e=>by rw[e] at h1;exact h1 hk),ih fun q hq=>h q (by simp[hq])]
  rfl
theorem xm (e:Nat) (r:List (Cel×V)):BG e (A++r)=A++BG e r:=by
 induction A with
 |nil=>rfl
 | cons p A ih=>
  obtain⟨_,_,x,h2⟩:=h p abw;obtain⟨c,u⟩:=p;simp only at h2;subst h2;rw[List.cons_append,BG,ih fun q hq=>h q (by simp[hq])]
  rfl
theorem bls (e:Nat) (he:d<e) (r:List (Cel×V)):Ak e (A++r)=A++Ak e r:=by
 induction A with
 |nil=>rfl
 | cons p A ih=>
  obtain⟨h1,_,x,h2⟩:=h p abw;obtain⟨c,u⟩:=p;simp only at h1 h2;subst h2;rw[List.cons_append,Ak,if_pos abu,ih fun q hq=>h q (by simp[hq])]
  rfl
theorem cutN (e:Nat) (he:d≤e) (r:List (Cel×V)):Ao e (A++r)=A++Ao e r:=by
 induction A with
 |nil=>rfl
 | cons p A ih=>
  obtain⟨h1,_,x,h2⟩:=h p abw;obtain⟨c,u⟩:=p;simp only at h1;rw[List.cons_append,Ao,if_pos abu,ih fun q hq=>h q (by simp[hq])]
  rfl
theorem allN (e:Nat) (r:List (Cel×V)):(A++r).all (fun p=>p.2.A4 e)=r.all (fun p=>p.2.A4 e):=by
 induction A with
 |nil=>rfl
 | cons p A ih=>
  obtain⟨_,_,x,h2⟩:=h p abw;obtain⟨c,u⟩:=p;simp only at h2;subst h2;rw[List.cons_append,List.all_cons,ih fun q hq=>h q (by simp[hq])]
  rfl
end
structure Op where
 co:Int
 ch:Int
 ve:Int
 sh:Int
 ro:Int
 st:Int
def Op.d (o:Op):D:=E3 o.co o.ch o.ve o.sh o.ro o.st
def Gh (o:Op):Prop:=(o.co=0∨o.co=4)∧64≤o.ch∧o.ch≤65536∧(o.ve=1∨o.ve=2)
def ekN (o:Op) (ek:Int):Int:=if o.ve=2 then orI .i64 ek 2 else ek
def smD (co:Int) (p:Int×List UInt8):D:= .agg [.int .i64 p.1,.int .i64 co,.sl (p.2.map AD)]
def eL (co:Int) (L:List (Int×List UInt8)):V:=match L with
 | []=> .d .AL
 |y::r=> .own false 3 ((y::r).map (smD co))
theorem dx {co:Int}:eL co []= .d .AL:=rfl
theorem au {co:Int} {L:List (Int×List UInt8)} (h:L≠[]):eL co L= .own false 3 (L.map (smD co)):=by
 cases L with
 |nil=>exact absurd rfl h
 |cons y r=>rfl
structure Wr where
 co:Int
 o:Op
 ek:Int
 wd:Int
 L:List (Int×List UInt8)
 er:Int
abbrev DS (w:Wr):List (Cel×V):=
 [(⟨0,26,0⟩,.d (.int .i64 (w.co))),(⟨0,26,1⟩,.d (.int .i64 (w.o.co))),(⟨0,26,2⟩,.d (.int .i64 (w.o.ch))),(⟨0,26,3⟩,.d (.int .i64 (w.o.ve))),(⟨0,26,4⟩,.d (.int .i64 (w.o.sh))),(⟨0,26,5⟩,.d (.int .i64 (w.o.ro))),(⟨0,26,6⟩,.d (.int .i64 (w.o.st))),(⟨0,26,7⟩,.d (.int .i64 (w.ek))),(⟨0,26,8⟩,.d (.int .i64 (w.wd))),(⟨0,26,9⟩,eL w.co w.L),(⟨0,26,10⟩,.d (.int .i64 (w.er)))]
def Wr.add (w:Wr) (k:Int) (x:List UInt8) (er:Int):Wr:={w with L:=w.L++[(k,x)],er:=er}
section
variable {A:List (Cel×V)} (hA:Aok 0 [26] A)
include hA
theorem yt (dp:Nat) (w:Wr) (ho:Gh w.o) (hL:w.L.length≤10) (k:Int) {b:List UInt8} (hb:b.length≤100000000) (B:List (Cel×V)) (hB:B=[]∨1≤dp∧∃ p q:D,B=[(⟨1,8,0⟩,.d p),(⟨1,8,1⟩,.d q)]):
   ∃ (x:List UInt8) (er:Int),evL cfg FZ (dp+1) [.ref 0 26 0,.d (.int .i64 (k)),.d (.sl ((b).map AD))] (A++(DS w++B))=some (.d (.tup []),A++(DS (w.add k x er)++B)):=by
 obtain⟨co,o,ek,wd,L,er⟩:=w;obtain⟨c1,c2,c3,c4⟩:=ho;simp only at c1 c2 c3 c4 hL;obtain⟨x,h⟩:=bm8 (b:=b) hb c1 abu c3;have z1:=fun o=>lkN hA 26 o abw
 have z2:=fun o=>stN hA 26 o abw
 have z3:=xm hA;have z4:=bls hA (dp+1) (Nat.zero_lt_succ _);have key:∀ e':Int,(b.length>262144∧er=0∧e'=4∨(¬ b.length>262144∨¬ er=0)∧e'=er)→evL cfg FZ (dp+1) [.ref 0 26 0,.d (.int .i64 (k)),.d (.sl ((b).map AD))] (A++(DS ⟨co,o,ek,wd,L,er⟩++B))=some (.d (.tup []),A++(DS ⟨co,o,ek,wd,L++[(k,x)],e'⟩++B)):=fun e' he=>by
   rw[e_br (dp+1) _ _ rfl rfl];simp only[DS,au (show L++[(k,x)]≠[] by simp),List.map_append,List.map_cons,List.map_nil]
   rcases he with⟨e1,e2,rfl⟩|⟨e1,rfl⟩
   · have d_a:decide ((b.length:Int)>262144)=true:=by simp<;>omega
     subst e2;by_cases hz:L=[]
     · subst hz
       rw[dx];rcases hB with rfl|⟨hd,p,q,rfl⟩
       · simp only[List.append_nil]
         simp(disch:=first|exact abt|fail) only[go_sem,Fz,FK,h,z1,z2,z3,z4,d_a,Int.reduceBNe,Int.reduceBEq,smD,aby,List.map_nil,List.nil_append]
       · have hd1:1<dp+1:=abu
         simp only[List.cons_append,List.nil_append];simp(disch:=first|exact abt|fail) only[go_sem,Fz,FK,h,z1,z2,z3,z4,d_a,hd,hd1,Int.reduceBNe,Int.reduceBEq,smD,aby,List.map_nil,List.nil_append]
     · rw[au hz]
       rcases hB with rfl|⟨hd,p,q,rfl⟩
       · simp only[List.append_nil]
         simp(disch:=first|exact abt|fail) only[go_sem,Fz,FK,h,z1,z2,z3,z4,d_a,Int.reduceBNe,Int.reduceBEq,smD,aby]
       · have hd1:1<dp+1:=abu
         simp only[List.cons_append,List.nil_append];simp(disch:=first|exact abt|fail) only[go_sem,Fz,FK,h,z1,z2,z3,z4,d_a,hd,hd1,Int.reduceBNe,Int.reduceBEq,smD,aby]
   · rcases ab2 (decide ((b.length:Int)>262144)) with d_a|d_a<;>have p_a:=d_a<;>simp only[ab4,ab3,acg,ab6,ne_eq] at p_a
     · have e2 : (e' == 0) = false := by have:¬ e'=0:=abu
                                         simpa using this
       by_cases hz:L=[]
       · subst hz
         rw[dx];rcases hB with rfl|⟨hd,p,q,rfl⟩
         · simp only[List.append_nil]
           simp(disch:=first|exact abt|fail) only[go_sem,Fz,FK,h,z1,z2,z3,z4,d_a,e2,Int.reduceBNe,Int.reduceBEq,smD,aby,List.map_nil,List.nil_append]
         · have hd1:1<dp+1:=abu
           simp only[List.cons_append,List.nil_append];simp(disch:=first|exact abt|fail) only[go_sem,Fz,FK,h,z1,z2,z3,z4,d_a,e2,hd,hd1,Int.reduceBNe,Int.reduceBEq,smD,aby,List.map_nil,List.nil_append]
       · rw[au hz]
         rcases hB with rfl|⟨hd,p,q,rfl⟩
         · simp only[List.append_nil]
           simp(disch:=first|exact abt|fail) only[go_sem,Fz,FK,h,z1,z2,z3,z4,d_a,e2,Int.reduceBNe,Int.reduceBEq,smD,aby]
         · have hd1:1<dp+1:=abu
           simp only[List.cons_append,List.nil_append];simp(disch:=first|exact abt|fail) only[go_sem,Fz,FK,h,z1,z2,z3,z4,d_a,e2,hd,hd1,Int.reduceBNe,Int.reduceBEq,smD,aby]
     · by_cases hz:L=[]
       · subst hz
         rw[dx];rcases hB with rfl|⟨hd,p,q,rfl⟩
         · simp only[List.append_nil]
           simp(disch:=first|exact abt|fail) only[go_sem,Fz,FK,h,z1,z2,z3,z4,d_a,Int.reduceBNe,Int.reduceBEq,smD,aby,List.map_nil,List.nil_append]
         · have hd1:1<dp+1:=abu
           simp only[List.cons_append,List.nil_append];simp(disch:=first|exact abt|fail) only[go_sem,Fz,FK,h,z1,z2,z3,z4,d_a,hd,hd1,Int.reduceBNe,Int.reduceBEq,smD,aby,List.map_nil,List.nil_append]
       · rw[au hz]
         rcases hB with rfl|⟨hd,p,q,rfl⟩
         · simp only[List.append_nil]
           simp(disch:=first|exact abt|fail) only[go_sem,Fz,FK,h,z1,z2,z3,z4,d_a,Int.reduceBNe,Int.reduceBEq,smD,aby]
         · have hd1:1<dp+1:=abu
           simp only[List.cons_append,List.nil_append];simp(disch:=first|exact abt|fail) only[go_sem,Fz,FK,h,z1,z2,z3,z4,d_a,hd,hd1,Int.reduceBNe,Int.reduceBEq,smD,aby]
 by_cases g1:b.length>262144∧er=0
 · exact⟨x,4,key 4 (.inl ⟨g1.1,g1.2,rfl⟩)⟩
 · exact⟨x,er,key er (.inr ⟨by omega,rfl⟩)⟩
theorem qr (dp:Nat) (w:Wr) (ho:Gh w.o) (hL:w.L.length≤10) (k:Int) {sg:Bool} {l:List Int} (h:DI sg l) (hN:l.length≤16384) (B:List (Cel×V)) (hB:B=[]∨1≤dp∧∃ p q:D,B=[(⟨1,8,0⟩,.d p),(⟨1,8,1⟩,.d q)]):
   ∃ x er,evL cfg FY (dp+1) [.ref 0 26 0,.d (.int .i64 (k)),.d (AR l),.d (.bool (sg))] (A++(DS w++B))=some (.d (.tup []),A++(DS ({w with ek:=ekN w.o w.ek}.add k x er)++B)):=by
 obtain⟨b,b1,b2⟩:=YH h hN ho.2.2.2;have z1:=fun o=>lkN hA 26 o abw
 have z2:=fun o=>stN hA 26 o abw
 have z3:=xm hA;have z4:=bls hA (dp+1) (Nat.zero_lt_succ _);have zc:=cutN hA (dp+1) (aco _);have za:=allN hA;have hB':B=[]∨1≤dp+1∧∃ p q:D,B=[(⟨1,8,0⟩,.d p),(⟨1,8,1⟩,.d q)]:=hB.imp id fun h=>⟨by omega,h.2⟩
 obtain⟨x,er',hp⟩:=yt hA (dp+1) {w with ek:=ekN w.o w.ek} ho hL k (b:=b) abu B hB';refine⟨x,er',?_⟩;obtain⟨co,o,ek,wd,L,er⟩:=w;have Ai:=au (co:=co) (show L++[(k,x)]≠[] by simp)
 rw[e_ce (dp+1) _ _ rfl rfl];unfold AR at *;unfold ekN at hp ⊢;rcases ho.2.2.2 with hv|hv
 · simp only at hv
   have hv2:¬ o.ve=2:=abu;simp only[DS,Wr.add,hv2,if_false] at hp ⊢;simp only[hv,Ai] at hp b2 ⊢;by_cases hz:L=[]
   · subst hz
     rw[dx] at hp ⊢;rcases hB with rfl|⟨hd,p,q,rfl⟩
     · simp only[List.append_nil] at hp ⊢
       simp(disch:=first|exact abt|fail) only[go_sem,II,Gc,b2,hp,z1,z2,z3,z4,zc,za,Int.reduceBNe,Int.reduceBEq]
     · have hd1:1<dp+1:=abu
       have hd2:1≤dp+1:=abu;simp only[List.cons_append,List.nil_append] at hp ⊢;simp(disch:=first|exact abt|fail) only[go_sem,II,Gc,b2,hp,z1,z2,z3,z4,zc,za,hd,hd1,hd2,Int.reduceBNe,Int.reduceBEq]
   · rw[au hz] at hp ⊢
     rcases hB with rfl|⟨hd,p,q,rfl⟩
     · simp only[List.append_nil] at hp ⊢
       simp(disch:=first|exact abt|fail) only[go_sem,II,Gc,b2,hp,z1,z2,z3,z4,zc,za,Int.reduceBNe,Int.reduceBEq]
     · have hd1:1<dp+1:=abu
       have hd2:1≤dp+1:=abu;simp only[List.cons_append,List.nil_append] at hp ⊢;simp(disch:=first|exact abt|fail) only[go_sem,II,Gc,b2,hp,z1,z2,z3,z4,zc,za,hd,hd1,hd2,Int.reduceBNe,Int.reduceBEq]
 · simp only at hv
   simp only[DS,Wr.add,hv,if_true,Ai] at hp b2 ⊢;by_cases hz:L=[]
   · subst hz
     rw[dx] at hp ⊢;rcases hB with rfl|⟨hd,p,q,rfl⟩
     · simp only[List.append_nil] at hp ⊢
       simp(disch:=first|exact abt|fail) only[go_sem,II,Gc,b2,hp,z1,z2,z3,z4,zc,za,Int.reduceBNe,Int.reduceBEq]
     · have hd1:1<dp+1:=abu
       have hd2:1≤dp+1:=abu;simp only[List.cons_append,List.nil_append] at hp ⊢;simp(disch:=first|exact abt|fail) only[go_sem,II,Gc,b2,hp,z1,z2,z3,z4,zc,za,hd,hd1,hd2,Int.reduceBNe,Int.reduceBEq]
   · rw[au hz] at hp ⊢
     rcases hB with rfl|⟨hd,p,q,rfl⟩
     · simp only[List.append_nil] at hp ⊢
       simp(disch:=first|exact abt|fail) only[go_sem,II,Gc,b2,hp,z1,z2,z3,z4,zc,za,Int.reduceBNe,Int.reduceBEq]
     · have hd1:1<dp+1:=abu
       have hd2:1≤dp+1:=abu;simp only[List.cons_append,List.nil_append] at hp ⊢;simp(disch:=first|exact abt|fail) only[go_sem,II,Gc,b2,hp,z1,z2,z3,z4,zc,za,hd,hd1,hd2,Int.reduceBNe,Int.reduceBEq]
end
end Go.Proofs.YtkdiccgfbfbjlaaGreat
namespace Go.Proofs.YtkdiccgfbfbjlaaGreat
open Go Go.Ev
variable [Sh]
set_option maxHeartbeats 8000000
set_option maxRecDepth 100000
theorem akg {tx:List Tx} (ht:∀ x∈tx,x.length≤4096):DI false (El tx):=fun v hv=>by
 obtain⟨x,hx,rfl⟩:=adl.1 hv;have:=ht x hx;exact⟨by unfold inI;omega,fun _=>by omega⟩
theorem zm:∀ {tx:List Tx},(∀ x∈tx,x.length≤4096)→tx.flatten.length≤4096*tx.length
 | [],_=>by simp
 | x::r,h=>by
  have:=zm (tx:=r) fun y hy=>h y (by simp[hy])
  have:=h x abw;rw[List.flatten_cons,aci,List.length_cons];omega
theorem Um {l ws:List Tx} (hw:ws.length≤20000):DI false (Fb l ws):=fun v hv=>by
 obtain⟨x,hx,rfl⟩:=adl.1 hv;have:=si x ws;exact⟨by unfold inI;omega,fun _=>by omega⟩
structure Nxt (w w':Wr):Prop where
 co:w'.co=w.co
 o:w'.o=w.o
 ne:w'.L≠[]
 len:w'.L.length≤w.L.length+3
section
variable {A:List (Cel×V)} (hA:Aok 0 [26] A)
include hA
theorem lkE (k o:Nat) (r:List (Cel×V)):lk (A++r) ⟨1,k,o⟩=lk r ⟨1,k,o⟩:=by
 induction A with
 |nil=>rfl
 | cons p A ih=>
  obtain⟨h1,_,_⟩:=hA p abw;obtain⟨c,v⟩:=p;simp only at h1;rw[List.cons_append,lk,if_neg (fun e=>by rw[e] at h1;cases h1)]
  exact ih fun q hq=>hA q (by simp[hq])
theorem stE (k o:Nat) (v:V) (r:List (Cel×V)):st (A++r) ⟨1,k,o⟩ v=A++st r ⟨1,k,o⟩ v:=by
 induction A with
 |nil=>rfl
 | cons p A ih=>
  obtain⟨h1,_,_⟩:=hA p abw;obtain⟨c,u⟩:=p;simp only at h1;rw[List.cons_append,st,if_neg (fun e=>by rw[e] at h1;cases h1),ih fun q hq=>hA q (by simp[hq])]
  rfl
theorem sf (w:Wr) (ho:Gh w.o) (hL:w.L.length≤10) (k:Int) {b:List UInt8} (hb:b.length≤100000000):∃ w',Nxt w w'∧evL cfg FZ 1 [.ref 0 26 0,.d (.int .i64 (k)),.d (.sl ((b).map AD))] (A++DS w)=some (.d (.tup []),A++DS w'):=by
 obtain⟨x,er,q⟩:=yt hA 0 w ho hL k hb [] (.inl rfl);rw[List.append_nil,List.append_nil] at q;exact⟨w.add k x er,⟨rfl,rfl,by simp[Wr.add],by simp[Wr.add]⟩,q⟩
theorem lm (w:Wr) (ho:Gh w.o) (hL:w.L.length≤10) (k:Int) {sg:Bool} {l:List Int} (h:DI sg l) (hN:l.length≤16384):∃ w',Nxt w w'∧evL cfg FY 1 [.ref 0 26 0,.d (.int .i64 (k)),.d (AR l),.d (.bool (sg))] (A++DS w)=some (.d (.tup []),A++DS w'):=by
 obtain⟨x,er,q⟩:=qr hA 0 w ho hL k h hN [] (.inl rfl);rw[List.append_nil,List.append_nil] at q;exact⟨({w with ek:=ekN w.o w.ek}:Wr).add k x er,⟨rfl,rfl,by simp[Wr.add],by simp[Wr.add]⟩,q⟩
theorem mr (w:Wr) (ho:Gh w.o) (hL:w.L.length≤7) {tx:List Tx} (htl:tx.length≤16384) (ht:∀ x∈tx,x.length≤4096) (b:Bool):
  ∃ w',Nxt w w'∧evL cfg UU 1 [.ref 0 26 0,.d (.sl (tx.map BA)),.d (.bool (b))] (A++DS w)=some (.d (.tup []),A++DS w'):=by
 have z1:=fun o=>lkN hA 26 o abw
 have z2:=fun o=>stN hA 26 o abw
 have z3:=xm hA;have z4:=bls hA 1 (Nat.zero_lt_succ _);have zc:=cutN hA 1 (aco _);have za:=allN hA;cases b with
 | false=>
  have hf:=zm ht;have hj:=ny (l:=tx) abu abu;obtain⟨y1,e1,q1⟩:=yt hA 1 w ho abu 1 (b:=tx.flatten) abu [] (.inl rfl);obtain⟨y2,e2,q2⟩:=qr hA 1 (w.add 1 y1 e1) ho (by simp[Wr.add];omega) 2 (akg ht) (by unfold El;rw[aby];omega) [] (.inl rfl)
  refine⟨({w.add 1 y1 e1 with ek:=ekN w.o w.ek}:Wr).add 2 y2 e2,⟨rfl,rfl,by simp[Wr.add],by simp[Wr.add]⟩,?_⟩
  obtain⟨co,o,ek,wd,L,er⟩:=w;have hne1:=au (co:=co) (show L++[(1,y1)]≠[] by simp)
  have hne2:=au (co:=co) (show L++[(1,y1)]++[(2,y2)]≠[] by simp)
  rw[e_bk 1 _ _ rfl rfl];simp only[DS,Wr.add,hne1,hne2,List.append_nil,AR] at q1 q2 ⊢;by_cases hz:L=[]
  · subst hz
    rw[dx] at q1 ⊢;simp only[List.nil_append,List.cons_append,List.map_cons,List.map_nil] at q1 q2 ⊢;simp(disch:=first|exact abt|fail) only[go_sem,ZQ,SD,hj,q1,q2,z1,z2,z3,z4,zc,za]
  · rw[au hz] at q1 ⊢
    simp(disch:=first|exact abt|fail) only[go_sem,ZQ,SD,hj,q1,q2,z1,z2,z3,z4,zc,za]
 | true=>
  have hr:=gq tx;have htr:∀ x∈BI tx,x.length≤4096:=fun x hx=>ht x (na.1 hx)
  have hf:=zm htr;have hm:=zt (l:=tx) abu (fun x hx=>by have:=ht x hx;omega)
  have hj:=ny (l:=BI tx) abu abu;have hB:[(⟨1,8,0⟩,V.d (.sl ((BI tx).map BA))),(⟨1,8,1⟩,V.d (.sl ((Fb tx (BI tx)).map (D.int .i64))))]=([]:List (Cel×V))∨1≤1∧∃ p q:D,[(⟨1,8,0⟩,V.d (.sl ((BI tx).map BA))),(⟨1,8,1⟩,V.d (.sl ((Fb tx (BI tx)).map (D.int .i64))))]=[((⟨1,8,0⟩:Cel),V.d p),(⟨1,8,1⟩,.d q)]:= .inr ⟨ab5 _,_,_,rfl⟩
  obtain⟨y1,e1,q1⟩:=qr hA 1 {w with ek:=1,wd:=((BI tx).length:Int)} ho (by simp;omega) 1 (Um (l:=tx) (ws:=BI tx) abu) (by unfold Fb;rw[aby];omega) _ hB
  obtain⟨y2,e2,q2⟩:=qr hA 1 ({w with ek:=ekN w.o 1,wd:=((BI tx).length:Int)}.add 1 y1 e1) ho (by simp[Wr.add];omega) 2 (akg htr) (by unfold El;rw[aby];omega) _ hB
  obtain⟨y3,e3,q3⟩:=yt hA 1 (({w with ek:=ekN w.o (ekN w.o 1),wd:=((BI tx).length:Int)}.add 1 y1 e1).add 2 y2 e2) ho (by simp[Wr.add];omega) 3 (b:=(BI tx).flatten) abu _ hB
  refine⟨((({w with ek:=ekN w.o (ekN w.o 1),wd:=((BI tx).length:Int)}:Wr).add 1 y1 e1).add 2 y2 e2).add 3 y3 e3,⟨rfl,rfl,by simp[Wr.add],by simp[Wr.add]⟩,?_⟩
  obtain⟨co,o,ek,wd,L,er⟩:=w;have hne1:=au (co:=co) (show L++[(1,y1)]≠[] by simp)
  have hne2:=au (co:=co) (show L++[(1,y1)]++[(2,y2)]≠[] by simp)
  have hne3:=au (co:=co) (show L++[(1,y1)]++[(2,y2)]++[(3,y3)]≠[] by simp)
  rw[e_bk 1 _ _ rfl rfl];have w1:=lkE hA;have w2:=stE hA;simp only[DS,Wr.add,hne1,hne2,hne3,AR,List.cons_append,List.nil_append] at q1 q2 q3 ⊢;by_cases hz:L=[]
  · subst hz
    rw[dx] at q1 ⊢;simp only[List.nil_append,List.cons_append,List.map_cons,List.map_nil] at q1 q2 q3 ⊢;simp(disch:=first|exact abt|fail) only[go_sem,ZQ,SD,hm,hj,q1,q2,q3,z1,z2,z3,z4,zc,za,w1,w2,aby]
  · rw[au hz] at q1 ⊢
    simp(disch:=first|exact abt|fail) only[go_sem,ZQ,SD,hm,hj,q1,q2,q3,z1,z2,z3,z4,zc,za,w1,w2,aby]
end
end Go.Proofs.YtkdiccgfbfbjlaaGreat
namespace Go.Proofs.YtkdiccgfbfbjlaaGreat
open Go Go.Ev
variable [Sh]
set_option maxHeartbeats 8000000
set_option maxRecDepth 100000
abbrev mA (t:Ty) (ks:List Nat) (par deep:Int) (c:Col) (o:Op):List (Cel×V):=[(⟨0,4,0⟩,.d (.int .i64 (t.kind))),(⟨0,4,1⟩,.d (.sl (ks.map Rv))),(⟨0,4,2⟩,.d (.sl (t.names.map D.str))),(⟨0,4,3⟩,.d (.int .i64 (t.len))),(⟨0,4,4⟩,.d (.int .i64 (t.prec))),(⟨0,4,5⟩,.d (.int .i64 (t.scale))),(⟨0,4,6⟩,.d (.int .i64 (par))),(⟨0,4,7⟩,.d (.int .i64 (deep))),(⟨0,6,0⟩,.d (cf c.here)),(⟨0,6,1⟩,.d (AR c.ints)),(⟨0,6,2⟩,.d (AR c.ns)),(⟨0,6,3⟩,.d (.sl (c.texts.map BA))),(⟨0,6,4⟩,.d (AR c.lens)),(⟨0,7,0⟩,.d (.int .i64 (o.co))),(⟨0,7,1⟩,.d (.int .i64 (o.ch))),(⟨0,7,2⟩,.d (.int .i64 (o.ve))),(⟨0,7,3⟩,.d (.int .i64 (o.sh))),(⟨0,7,4⟩,.d (.int .i64 (o.ro))),(⟨0,7,5⟩,.d (.int .i64 (o.st))),(⟨0,8,0⟩,.d (.int .i64 (0))),(⟨0,8,1⟩,.d (.int .i64 (0)))]
theorem mA_ok (t:Ty) (ks:List Nat) (par deep:Int) (c:Col) (o:Op):Aok 0 [26] (mA t ks par deep c o):=by
 intro p hp;simp only[mA,ach,adk,or_false] at hp;rcases hp with rfl|rfl|rfl|rfl|rfl|rfl|rfl|rfl|rfl|rfl|rfl|rfl|rfl|rfl|rfl|rfl|rfl|rfl|rfl|rfl|rfl<;>exact⟨rfl,by simp,_,rfl⟩
theorem bld (x:List UInt8):Bw x= .d .AL∧x=[]∨Bw x= .own false 1 (x.map AD):=by
 cases x with
 |nil=>exact .inl ⟨rfl,rfl⟩
 |cons a l=>exact .inr rfl
theorem dv_or (x:List UInt8):dv x= .d .AL∧x=[]∨dv x= .d (.sl ((x).map AD)):=by
 cases x with
 |nil=>exact .inl ⟨rfl,rfl⟩
 |cons a l=>exact .inr rfl
def WR (t:Ty) (ks:List Nat) (par deep col:Int) (c:Col) (o:Op):Prop:=
 ∃ (e1 e2 er:Int) (L:List (Int×List UInt8)),L.length≤10∧evL cfg Pw 0 [.d (CO t ks par deep),.d (.int .i64 (col)),.d c.d,.d o.d] []=some (.d (.tup [.agg [.int .i64 e1,.int .i64 e2],.sl (L.map (smD col)),.int .i64 er]),[])
abbrev blE (l:List Int) (x:List Bool) (i:Nat):List (Nat×V):=[(8,.ref 0 8 0),(12,.ref 0 26 0),(14,.own false 1 (x.map D.bool)),(61,.d (.sl (l.map (D.int .i64)))),(62,.d (.int .i64 ((l.length:Int)))),(63,.d (.int .i64 ((i:Int))))]
theorem bnq (l:List Int) (hl:l.length≤100000) {M:List (Cel×V)} (hs:∀ e,BG e M=M) (K:List Kf):∀ (q:List Int) (i:Nat) (x:List Bool),l.drop i=q→i≤l.length→x.length=l.length→
  ∃ x':List Bool,x'.length=l.length∧go Gg (.c (.loop art):: .b 10:: .c (.seq (.BV [14]) ym)::K) ⟨blE l x i,M⟩=go Gg (.c ym::K) ⟨[(8,.ref 0 8 0),(12,.ref 0 26 0),(14,.d (cf x')),(61,.d (.sl (l.map (D.int .i64)))),(62,.d (.int .i64 ((l.length:Int)))),(63,.d (.int .i64 ((l.length:Int)))),(64,.d (.bool (false)))],M⟩
 | [],i,x,hq,hi,hx=>by
  have:=aq hq;have:i=l.length:=abu;subst this;have d_a:decide ((l.length:Int)<l.length)=false:=by simp<;>omega
  refine⟨x,hx,?_⟩;rw[go_loop];simp(disch:=first|exact abt|fail) only[go_sem,Gg,blE,cf,d_a,hs]
 | v::q,i,x,hq,hi,hx=>by
  obtain⟨h1,h2,h3⟩:=ba hq;have d_a:decide ((i:Int)<l.length)=true:=by simp<;>omega
  have hxi:i<x.length:=abu;obtain⟨y,hy⟩:∃ y,x[i]? =some y:=⟨_,ab0 hxi⟩
  obtain⟨x',q1,q2⟩:=bnq l hl hs K q (i+1) (x.set i (v !=0)) h3 h1 (by rw[List.length_set];exact hx)
  refine⟨x',q1,Eq.trans ?_ q2⟩;have hset:(x.map D.bool).set i (.bool (v !=0))=(x.set i (v !=0)).map D.bool:=by rw[List.map_set]
  have Bz:(D.bool y).setAt 0 [.bool (v !=0)]=some (.bool (v !=0)):=rfl;rw[go_loop];simp(disch:=first|exact abt|fail) only[go_sem,Gg,blE,d_a,h2,hy,hset,Bz,hs,aby,Int.natCast_add]
