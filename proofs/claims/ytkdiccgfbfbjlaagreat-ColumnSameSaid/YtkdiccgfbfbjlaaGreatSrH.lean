import Derived.Test.YtkdiccgfbfbjlaaGreatSrD
import Derived.Test.YtkdiccgfbfbjlaaGreatTyG
import Derived.Test.YtkdiccgfbfbjlaaGreatVaF
import Derived.Test.YtkdiccgfbfbjlaaGreatExt
import Derived.Laws.MakeOwn
import Derived.Test.YtkdiccgfbfbjlaaGreatSrG
import Derived.Deep.RegionHeld3
set_option linter.unusedSectionVars false
namespace Go.Proofs.YtkdiccgfbfbjlaaGreat
open Go Go.Ev Go.RowKit
section
variable [Sh]
theorem ak7:∀ {l:List Ty} {d:Nat} {n:Int},(Cq d n l).2=0→∀ k∈l,∃ n',(BP d n' k).2=0
 | k::r,d,n,h,x,hx=>by
  rw[ft] at h;split at h
  · rename_i h1
    rw[h] at h1;simp at h1
  · rename_i h1
    rcases ach.1 hx with e|e
    · rw[e];exact⟨n,by simpa using h1⟩
    · exact ak7 h x e
theorem zy:∀ (m:Nat) (t:Ty) (d:Nat) (n:Int),(BP d n t).2=0→Gp m t
 |0,_,_,_,_=>trivial
 | m+1,t,d,n,h=>by
  rw[ph] at h;split at h
  · cases h
  · split at h
    · rename_i h1
      simp only at h;rw[h] at h1;simp at h1
    · rename_i h1
      refine⟨by simpa using h1,fun k hk=> ?_⟩
      obtain⟨n',h2⟩:=ak7 h k hk;exact zy m k _ _ h2
end
theorem bab {f:FuncId} {F:Func} (hf:Tryz.prog.funcs[f]? =some F) (hname:(F.name=="runtime.NumGoroutine")=false) (hb:F.body.isSome=true)
  (ds:List D) {n:Int} (h:∀ [Sh],evL cfg f 0 (ds.map .d) []=some (.d (.int .i64 n),[])) {args:Array Value} {w:World} (hsz:args.size=ds.length) (B7:∀ (i:Nat) v d,args[i]? =some v→ds[i]? =some d→Rd CE w v d):
  Calls Tryz.prog f args w fun e w'=>e= .returned (.int .i64 n)∧w.grownBy w' none:=by
 letI:Sh:=⟨false⟩
 obtain⟨c,hc⟩:=acl.1 hb;exact(qf follows Vb a9r (HL fun h=>by cases h) hf hname hc h hsz B7 (fun n e h=>by cases h) (fun n ob h=>by cases h)).mono fun e w' ⟨v,h1,h2,B⟩=>⟨by rw[h1,h2.Ar],⟨B.os,B.tape,B.output,B.size,fun k hk _=>B.block k hk⟩⟩
theorem rd_lt {w:World} {v:Value} {d:D} {F:Nat→Prop} (h:Rd F w v d):Rd (· <w.heap.size) w v d:=h.mono fun b o u _ hu=>⟨World.block_lt_of_cell? w (ad3 b o) hu,hu⟩
theorem asi {w:World} {v:Value} {d:D} {F:Nat→Prop} (h:Rd F w v d):Rd CE w v d:=h.mono fun _ _ _ _ hu=>⟨trivial,hu⟩
theorem qn {w w':World} {v:Value} {d:D} {F:Nat→Prop} (h:Rd F w v d) (g:w.grownBy w' none):Rd F w' v d:=
 h.mono fun b o u hb hu=>⟨hb,by rw[Ap (g.block b (World.block_lt_of_cell? w (ad3 b o) hu) abw)];exact hu⟩
theorem args1 {w:World} {v:Value} {d:D} (h:Rd CE w v d):∀ (i:Nat) v' d',#[v][i]? =some v'→[d][i]? =some d'→Rd CE w v' d':=fun i v' d' h1 h2=>by
 match i,h1,h2 with
 |0,h1,h2=>cases h1;cases h2;exact h
 |i+1,h1,h2=>simp at h1
theorem bH {w:World} {v u:Value} {d e:D} (h:Rd CE w v d) (h':Rd CE w u e):∀ (i:Nat) v' d',#[v,u][i]? =some v'→[d,e][i]? =some d'→Rd CE w v' d':=fun i v' d' h1 h2=>by
 match i,h1,h2 with
 |0,h1,h2=>cases h1;cases h2;exact h
 |1,h1,h2=>cases h1;cases h2;exact h'
 |i+2,h1,h2=>simp at h1
theorem tq {t:Ty} (ht:FJ t=true) {w:World} {v:Value} (h:Rd CE w v t.d):Calls Tryz.prog 27 #[v] w fun e w'=>e= .returned (.int .i64 (BP 1 0 t).2)∧w.grownBy w' none:=
 bab Tryz.func27 abv abv [t.d] (rz t (bmc ht).2) rfl (args1 h)
theorem alo {F:Nat→Prop} {w:World} {c0 c1 c2 c3 c4 c5:Value} {t:Ty} (h:Ce F w [c0,c1,c2,c3,c4,c5] t):Rd F w (.agg #[c0,c1,c2,c3,c4,c5]) t.d:=by
 rw[t.DE];refine .agg _ _ rfl (fun c hc=> ?_) fun i v c hv hc=> ?_
 · simp only[ach,adk,or_false] at hc
   rcases hc with rfl|rfl|rfl|rfl|rfl|rfl<;>rfl
 · exact h.2 i v c hv (by rw[Au];exact hc)
set_option maxRecDepth 100000 in
theorem zl {t:Ty} (ht:FJ t=true) (Bp:(BP 1 0 t).2=0) {W:World} {a1 a2:Option Addr} {n1 n2 m1 m2:Nat} {i0 i3 i4 i5:Int} (B7:Ce (· <W.heap.size) W [.int .i64 i0,.slice a1 n1 m1,.slice a2 n2 m2,.int .i64 i3,.int .i64 i4,.int .i64 i5] t):
  Calls Tryz.prog 11 #[.agg #[.int .i64 i0,.slice a1 n1 m1,.slice a2 n2 m2,.int .i64 i3,.int .i64 i4,.int .i64 i5]] W fun e W'=>∃ l ns,e= .returned l∧CI W.heap.size W' l ns∧ns.map NV.sig=Bq 0 (-1) 1 t∧(∀ n∈ns,Ce (· <W.heap.size) W' n.tv n.ty)∧W.grownBy W' none:=by
 letI:Sh:=⟨false⟩
 have hsz:=tp Bp;have g0:W.grownBy (W.alloc (.cells #[.int .i64 i0,.slice a1 n1 m1,.slice a2 n2 m2,.int .i64 i3,.int .i64 i4,.int .i64 i5] 25)) none:=World.grownBy_alloc W _ none;have h0:=tq ht (asi (qn (alo B7) g0));have h1:∀ w1,(W.alloc (.cells #[.int .i64 i0,.slice a1 n1 m1,.slice a2 n2 m2,.int .i64 i3,.int .i64 i4,.int .i64 i5] 25)).grownBy w1 none→Calls Tryz.prog 30 #[.slice none 0 0,.agg #[.int .i64 i0,.slice a1 n1 m1,.slice a2 n2 m2,.int .i64 i3,.int .i64 i4,.int .i64 i5],.int .i64 (-1),.int .i64 1] w1
   fun e W'=>∃ l ns,e= .returned l∧CI W.heap.size W' l ns∧ns.map NV.sig=Bq 0 (-1) 1 t∧(∀ n∈ns,Ce (· <W.heap.size) W' n.tv n.ty)∧W.grownBy W' none:=fun w1 g1=>by
  have g01:=g0.trans g1;refine Calls.mono (wg t.size t (ab5 _) (· <W.heap.size) W.heap.size (fun b hb=>hb) w1 (.slice none 0 0) (.slice none 0 0) (.inl rfl) [] (-1) 1 _ _ _ _ _ _ (.nil _ _) g01.size (by simp;omega) (by unfold inI;omega) abu (B7.kept fun b hb=>g01.block b hb abw)) ?_
  rintro e W' ⟨l',ns',rfl,inv,fr,sig,rd,_⟩
  have g2:w1.grownBy W' none:=⟨fr.os,fr.tape,fr.output,fr.size,fun k hk _=>fr.block k hk fun ho=>by rcases ho with h|⟨n,hn,_⟩<;>first|cases h|cases hn⟩
  exact⟨l',ns',rfl,by simpa using inv,by simpa using sig,fun n hn=>rd n hn,g01.trans g2⟩
 have h2:∀ w1,(W.alloc (.cells #[.int .i64 i0,.slice a1 n1 m1,.slice a2 n2 m2,.int .i64 i3,.int .i64 i4,.int .i64 i5] 25)).grownBy w1 none→∀ j u,[.int .i64 i0,.slice a1 n1 m1,.slice a2 n2 m2,.int .i64 i3,.int .i64 i4,.int .i64 i5][j]? =some u→w1.cell? ⟨W.heap.size,j,none⟩=some u:=fun w1 g1 j u hu=>by
  rw[World.cell?_of_block (w:=(W.alloc (.cells #[.int .i64 i0,.slice a1 n1 m1,.slice a2 n2 m2,.int .i64 i3,.int .i64 i4,.int .i64 i5] 25))) (g1.block _ abw abw)];have:=kq W [.int .i64 i0,.slice a1 n1 m1,.slice a2 n2 m2,.int .i64 i3,.int .i64 i4,.int .i64 i5] 25 W.heap.size rfl j u hu;rw[show(⟨W.heap.size,j,none⟩:Addr)=(⟨W.heap.size,0,none⟩:Addr).add j by cases j<;>simp[Addr.add]]
  exact this
 replace h2:Aside _:=h2
 rw[Bp] at h0
 replace h0:Aside _:=h0
 replace h1:Aside _:=h1
 clear B7 Bp ht g0
 go_enter Tryz.func11,Tryz.ntmps11
 go_wp2_with (first
  | (go_at_call 27;go_must (refine Calls.mono (Aside.out h0) ?_;rintro e w1 ⟨rfl,g1⟩;have b0:=h2.out _ g1 0 _ rfl;have b1:=h2.out _ g1 1 _ rfl;have b2:=h2.out _ g1 2 _ rfl;have b3:=h2.out _ g1 3 _ rfl;have b4:=h2.out _ g1 4 _ rfl;have b5:=h2.out _ g1 5 _ rfl;replace g1:Aside _:=g1))
  | (go_at_call 30;go_must (refine Calls.mono (Aside.out h1 _ g1.out) ?_;rintro e w2 ⟨l',ns',rfl,q⟩;replace q:Aside _:=q))
  |go_in)
 go_ret
 exact⟨l',ns',rfl,q.out⟩
end Go.Proofs.YtkdiccgfbfbjlaaGreat
namespace Go.Proofs.YtkdiccgfbfbjlaaGreat
open Go Go.Ev Go.RowKit
theorem bK {F:Nat→Prop} {W:World} {v:Value} {vs:List Va} (h2:Rd F W v (.sl (vs.map Va.d))):∃ ad cap,v= .slice ad vs.length cap∧∀ (k:Nat) x,vs[k]? =some x→∃ b o,ad=some (ad3 b o)∧F b∧∃ u0 u1 u2 u3 u4,
    W.cell? (ad3 b (o+k*5))=some u0∧W.cell? (ad3 b (o+k*5+1))=some u1∧W.cell? (ad3 b (o+k*5+2))=some u2∧W.cell? (ad3 b (o+k*5+3))=some u3∧W.cell? (ad3 b (o+k*5+4))=some u4∧Fj F W [u0,u1,u2,u3,u4] x:=by
 rcases h2.Gj (z:=5) (fun e he=>by
   cases hk:vs with
   |nil=>rw[hk] at he;cases he
   |cons x r=>rw[hk] at he;cases he;rw[BQ];rfl) with⟨ad,cap,e,e2⟩|⟨b,o,cap,e,Ad,_,hp⟩
 · have hk:vs=[]:=by simpa using e2
   exact⟨ad,cap,by rw[hk];exact e,fun k x hx=>by rw[hk] at hx;simp at hx⟩
 · refine⟨_,cap,by simpa using e,fun k x hx=> ?_⟩
   have hpk:=hp k x.d (by simp[hx])
   have at':∀ (j:Nat) c,x.d.cells[j]? =some c→∃ v,F b∧W.cell? (ad3 b (o+k*5+j))=some v∧Rd F W v c:=hpk.2
   rw[BQ] at at';obtain⟨u0,hF,m0,r0⟩:=at' 0 _ rfl;obtain⟨u1,_,m1,r1⟩:=at' 1 _ rfl;obtain⟨u2,_,m2,r2⟩:=at' 2 _ rfl;obtain⟨u3,_,m3,r3⟩:=at' 3 _ rfl;obtain⟨u4,_,m4,r4⟩:=at' 4 _ rfl;refine⟨b,o,rfl,hF,u0,u1,u2,u3,u4,by simpa using m0,m1,m2,m3,m4,rfl,fun i u c hu hd=> ?_⟩
   rw[BQ] at hd
   match i,hu,hd with
   |0,hu,hd=>cases hu;cases hd;exact r0
   |1,hu,hd=>cases hu;cases hd;exact r1
   |2,hu,hd=>cases hu;cases hd;exact r2
   |3,hu,hd=>cases hu;cases hd;exact r3
   |4,hu,hd=>cases hu;cases hd;exact r4
   |i+5,hu,hd=>simp at hu
theorem Wn {F:Nat→Prop} {w:World} {c0 c1 c2 c3 c4:Value} {x:Va} (h:Fj F w [c0,c1,c2,c3,c4] x):Rd F w (.agg #[c0,c1,c2,c3,c4]) x.d:=by
 have e:x.d= .agg x.d.cells:=by rw[BQ,x.DE]
 rw[e,BQ];refine .agg _ _ rfl (fun c hc=> ?_) fun i v c hv hc=> ?_
 · simp only[ach,adk,or_false] at hc
   rcases hc with rfl|rfl|rfl|rfl|rfl<;>rfl
 · exact h.2 i v c hv (by rw[BQ];exact hc)
theorem Cu.weak {B B':Nat→Prop} {W:World} {gl:Nat} {nd:List Nod} (h:Cu B W gl nd) (hB:∀ b,B b→B' b):Cu B' W gl nd:=fun i x hx=>by
 obtain⟨h0,a1,n1,q1,a2,n2,q2,i3,i4,i5,ad,cap,c0,c1,c2,c3,c4,c5,c6,hk⟩:=h i x hx;exact⟨hB _ h0,a1,n1,q1,a2,n2,q2,i3,i4,i5,ad,cap,c0,c1,c2,c3,c4,c5,c6,fun j k hj=>by
  obtain⟨b,e,hb,hc⟩:=hk j k hj;exact⟨b,e,hB _ hb,hc⟩⟩
def fs0 (N:Nat):List Fd:=List.replicate (N*5) ⟨.slice none 0 0,[]⟩
theorem bll (w:World) (base N:Nat) (hN:N≤1000) (hb:base≤w.heap.size):
   ∃ w',(Instr.makeSlice 31 (.int .i64 (N:Int)) (.int .i64 (N:Int))).run Tryz.prog w= .ok (.slice (some ⟨w.heap.size,0,none⟩) N N) w'∧DV base w' w.heap.size N (fs0 N)∧w.grownBy w' none:=by
 obtain⟨i0,hi,hz0,hz1,hz2⟩:=info_parts (P:=Tryz.prog) (e:=57) (z:= .agg #[.slice none 0 0,.slice none 0 0,.slice none 0 0,.slice none 0 0,.slice none 0 0]) (size:=5) (bytes:=120) abv;have hr:=run_make (P:=Tryz.prog) (w:=w) 31 57 i0 _ Tryz.underlying31 hi hz0 .i64 .i64 N N abu abu (by rw[hz2];omega) abu
 rw[hz1,show((N:Int)).toNat=N by omega] at hr
 refine⟨_,hr,⟨⟨by simp[fs0],.inr ⟨w.heap.size,N,_,rfl,hb,World.alloc_heap_new w _,ab5 _,by unfold maxLen;omega,by simp[size_madeCells],?_⟩⟩,fun p f hp=> ?_,fun p f hp=> ?_,fun p q f h hp hq Ai=> ?_⟩,World.grownBy_alloc w _ none⟩
 · have e:∀ n,(madeCells #[Value.slice none 0 0,.slice none 0 0,.slice none 0 0,.slice none 0 0,.slice none 0 0] n).toList=List.replicate n (.slice none 0 0):=fun n=>by
    apply List.ext_getElem (by simp[size_madeCells])
    intro i h1 h2;simp only[madeCells,Array.toList_map,List.getElem_map,Array.getElem_toList,Array.getElem_range,List.getElem_replicate];have:i % 5=0∨i % 5=1∨i % 5=2∨i % 5=3∨i % 5=4:=abu;have h5:(#[Value.slice none 0 0,.slice none 0 0,.slice none 0 0,.slice none 0 0,.slice none 0 0]:Array Value).size=5:=rfl;rw[h5];rcases this with h|h|h|h|h<;>rw[h]<;>rfl
   show List.take (N*5) (madeCells #[Value.slice none 0 0,.slice none 0 0,.slice none 0 0,.slice none 0 0,.slice none 0 0] (N*5)).toList=_;rw[e,fs0,List.map_replicate,List.take_replicate,Nat.min_self]
 all_goals
   obtain rfl:=(adr.1 (List.mem_of_getElem? hp)).2
 · exact World.ownsRow_nil _ _ _ _
 · exact .inl rfl
 · exact .inl rfl
theorem mK (F:Nat→Prop) (w:World) (N:Nat):Cl F w (fs0 N) (List.replicate N Col.nil):=fun q c hc k hk=>by
 have hq:q<N:=by
  have:=(ab1.1 hc).1;simpa using this
 obtain rfl:=(adr.1 (List.mem_of_getElem? hc)).2;refine⟨⟨.slice none 0 0,[]⟩,by rw[fs0,List.getElem?_replicate,if_pos abu],?_⟩
 match k with
 |0=>rfl
 |1=>rfl
 |2=>rfl
 |3=>exact⟨rfl,fun i v b hv=>by simp at hv⟩
 |k+4=>rfl
theorem nB (N:Nat):Cb (List.replicate N Col.nil):=fun c hc=>by
 obtain rfl:=(adr.1 hc).2;simp[Col.nil]
theorem bdh {G:Nat→Prop} {w:World} {base:Nat} {e:TypeId} {v:Value} {xs:List Value} {es:List D} (h:w.ownsRow base e 1 v xs.length xs) (hl:xs.length=es.length) (hG:∀ b,v.ownBlock=some b→G b)
   (hc:∀ d∈es,d.cells=[d]∧d.AP=true) (hr:∀ (i:Nat) x d,xs[i]? =some x→es[i]? =some d→Rd G w x d):Rd G w v (.sl es):=by
 rcases h.2 with⟨rfl,h0⟩|⟨g,cap,cur,rfl,_,hg,hnc,_,hcs,htake⟩
 · have:es=[]:=acw abu
   subst this;exact .slA _ _
 · refine .sl g 0 xs.length cap 1 _ (fun i _=>xs.getD i (.int .i64 0)) hl.symm hnc (fun d hd=>by rw[(hc d hd).1];rfl) (fun d hd c hc'=> ?_) (fun i d hd j c hc'=>⟨hG g rfl,?_⟩) fun i d hd j c hc'=> ?_
   · rw[(hc d hd).1,acv] at hc';subst hc';exact(hc _ hd).2
   · have hm:=List.mem_of_getElem? hd
     rw[(hc d hm).1] at hc';have hj:j=0:=by
      have:j<[d].length:=(ab1.1 hc').1;simpa using this
     subst hj;have hi:i<xs.length:=by rw[hl];exact(ab1.1 hd).1
     have:=h.cellAt i abu;rw[show 0+i*1+0=i by omega]
     show w.cell? ⟨g,i,none⟩=_;rw[this];simp[List.getD_eq_getElem?_getD,hi]
   · have hm:=List.mem_of_getElem? hd
     rw[(hc d hm).1] at hc';have hj:j=0:=by
      have:j<[d].length:=(ab1.1 hc').1;simpa using this
     subst hj;cases hc';have hi:i<xs.length:=by rw[hl];exact(ab1.1 hd).1
     exact hr i _ d (by simp[List.getD_eq_getElem?_getD,hi]) hd
theorem YM {F G:Nat→Prop} {base g N:Nat} {w:World} {fs:List Fd} {cs:List Col} (h:DV base w g N fs) (hc:Cl F w fs cs) (hl:cs.length=N) (hF:∀ b,F b→G b) (hB:∀ b,base≤b→G b):Rd G w (.slice (some ⟨g,0,none⟩) N N) (.sl (cs.map Col.d)):=by
 have key:∀ (q:Nat) c,cs[q]? =some c→∀ k,k<5→∃ v,w.cell? ⟨g,q*5+k,none⟩=some v∧∀ d,c.d.cells[k]? =some d→Rd G w v d:=fun q c hq k hk=>by
   obtain⟨f,hf,hR⟩:=hc q c hq k hk;refine⟨f.v,(h.cell hf).1,fun d hd=> ?_⟩
   have own:=h.fld _ _ hf;have hG:∀ b,f.v.ownBlock=some b→G b:=fun b hb=>hB b (own.lt b hb).1
   have el:∀ {n:Int} (i:IntKind),(D.int i n).cells=[D.int i n]∧(D.int i n).AP=true:=fun _=>⟨rfl,rfl⟩
   have ints:∀ l:List Int,f.xs=l.map (Value.int .i64)→Rd G w f.v (.sl (l.map (D.int .i64))):=fun l e=>by
    refine bdh own (by rw[e];simp) hG (fun d hd=> ?_) fun i x d hx hd=> ?_
    · obtain⟨n,_,rfl⟩:=adl.1 hd;exact el _
    · rw[e,acf,abz] at hx
      rw[acf,abz] at hd;obtain⟨a,ha,rfl⟩:=hx;obtain⟨b,hb,rfl⟩:=hd;rw[ha] at hb;cases hb;exact .int _ _
   match k,hd,hR with
   | 0,hd,hR=>
    cases hd;have e:f.xs=c.here.map Value.bool:=hR;refine bdh own (by rw[e];simp) hG (fun d hd=> ?_) fun i x d hx hd=> ?_
    · obtain⟨n,_,rfl⟩:=adl.1 hd;exact⟨rfl,rfl⟩
    · rw[e,acf,abz] at hx
      rw[acf,abz] at hd;obtain⟨a,ha,rfl⟩:=hx;obtain⟨b,hb,rfl⟩:=hd;rw[ha] at hb;cases hb;exact .bool _
   |1,hd,hR=>cases hd;exact ints _ hR
   |2,hd,hR=>cases hd;exact ints _ hR
   | 3,hd,hR=>
    cases hd;refine bdh own (by rw[hR.1];simp) hG (fun d hd=> ?_) fun i x d hx hd=> ?_
    · obtain⟨n,_,rfl⟩:=adl.1 hd;exact⟨rfl,rfl⟩
    · rw[acf,abz] at hd
      obtain⟨b,hb,rfl⟩:=hd;exact(hR.2 i x b hx hb).mono fun b o u hb hu=>⟨hF b hb,hu⟩
   |4,hd,hR=>cases hd;exact ints _ hR
 have c5:∀ c:Col,c.d.cells.length=5:=fun c=>rfl
 subst hl;rw[show cs.length=(cs.map Col.d).length by simp]
 refine .sl g 0 _ _ 5 _ (fun q k=>(w.cell? ⟨g,q*5+k,none⟩).getD (.int .i64 0)) rfl (ab5 _) (fun d hd=> ?_) (fun d hd c hc'=> ?_) (fun q d hd k c hc'=>⟨hB g (h.row.lt g rfl).1,?_⟩) fun q d hd k c hc'=> ?_
 · obtain⟨c,_,rfl⟩:=adl.1 hd;rfl
 · obtain⟨x,_,rfl⟩:=adl.1 hd
   have:c∈[D.sl (x.here.map D.bool),.sl (x.ints.map (D.int .i64)),.sl (x.ns.map (D.int .i64)),.sl (x.texts.map BA),.sl (x.lens.map (D.int .i64))]:=hc';simp only[ach,adk,or_false] at this;rcases this with rfl|rfl|rfl|rfl|rfl<;>rfl
 all_goals
   rw[acf,abz] at hd;obtain⟨x,hx,rfl⟩:=hd;have hk:k<5:=by have:=(ab1.1 hc').1;rw[c5] at this;exact this
   obtain⟨v,hv,B7⟩:=key q x hx k hk
 · rw[show 0+q*5+k=q*5+k by omega]
   show w.cell? ⟨g,q*5+k,none⟩=_;rw[hv];rfl
 · rw[hv]
   exact B7 c hc'
end Go.Proofs.YtkdiccgfbfbjlaaGreat
namespace Go.Proofs.YtkdiccgfbfbjlaaGreat
open Go Go.Ev Go.RowKit
theorem bcl:∀ (n:Nat) (v:Va),v.size≤n→Sc n v.d=some v
 |0,v,h=>by have:=v.size_pos;omega
 | n+1,v,h=>by
  have ht:∀ b:Tx,Wv (b.map AD)=some b:=fun b=>by
   induction b with
   |nil=>rfl
   | cons c b ih=>
    have h1:=c.toNat_lt;rw[List.map_cons,show AD c= .int .u8 (c.toNat:Int) from rfl,Wv,if_pos abu,ih]
    simp
  have hk:Ha (Sc n) (v.kids.map Va.d)=some v.kids:=by
   have:∀ l:List Va,(∀ k∈l,k∈v.kids)→Ha (Sc n) (l.map Va.d)=some l:=fun l=>by
    induction l with
    |nil=>intro _;rfl
    | cons k l ih=>
     intro hm;rw[List.map_cons,Ha,bcl n k (by have:=Va.A8 (hm k abw);omega),ih fun k hk=>hm k (by simp[hk])]
   exact this _ fun _ h=>h
  rw[v.DE,show(BA v.b)= .sl (v.b.map AD) from rfl,Sc]
  simp only[ht,hk];cases v;rfl
theorem bM {u v:Va} (h:u.d=v.d):u=v:=by
 have h1:=bcl (u.size+v.size) u abu;rw[h,bcl _ v abu] at h1;exact(Option.some.inj h1).symm
theorem bT {u v:Ty} (h:u.d=v.d):u=v:=by
 have h1:=bco (u.size+v.size) u abu;rw[h,bco _ v abu] at h1;exact(Option.some.inj h1).symm
theorem bce {t:Ty} {vs:List Va} (h:Dc t vs):Dw [t.d,.sl (vs.map Va.d)]=(Dx t vs).map V.d:=by
 have hx:∃ t' vs',[t.d,.sl (vs.map Va.d)]=[Ty.d t',.sl (vs'.map Va.d)]∧Dc t' vs':=⟨t,vs,rfl,h⟩
 unfold Dw;rw[dif_pos hx];have h1:=hx.choose_spec.choose_spec.1;generalize hx.choose_spec.choose=vs' at h1 ⊢;generalize hx.choose=t' at h1 ⊢;simp only[List.cons.injEq,D.sl.injEq,and_true] at h1;obtain⟨e1,e2⟩:=h1;obtain rfl:=bT e1;have:vs=vs':=by
  clear hx h
  induction vs generalizing vs' with
  | nil=>cases vs' with
   |nil=>rfl
   |cons y l=>cases e2
  | cons x l ih=>cases vs' with
   |nil=>cases e2
   | cons y l'=>
    simp only[List.map_cons,List.cons.injEq] at e2;rw[bM e2.1,ih l' e2.2]
 subst this;rfl
theorem ble [Sh]:∀ l:List Va,C6 l=true→Fv l:=by
 have key:∀ (m:Nat) (v:Va),v.size≤m→Pg v=true→okV v:=by
  intro m
  induction m with
  |zero=>intro v h;have:=v.size_pos;omega
  | succ m IH=>
   intro v h hb;rw[GF];have he:Pg v=(decide (-9223372036854775808≤v.i)&&decide (v.i<9223372036854775808)&&decide (v.b.length<9223372036854775808)&&decide (v.kids.length<9223372036854775808)&&C6 v.kids):=by cases v;rw[Pg];rfl
   rw[he] at hb;simp only[aca,ab4] at hb;refine⟨by unfold inI;omega,by omega,by omega,?_⟩
   have:∀ l:List Va,(∀ k∈l,k∈v.kids)→C6 l=true→Fv l:=fun l=>by
    induction l with
    |nil=>intro _ _;rw[Fv];trivial
    | cons k l ih=>
     intro hm h2;rw[C6,aca] at h2;rw[Fv];exact⟨IH k (by have:=Va.A8 (hm k abw);omega) h2.1,ih (fun k hk=>hm k (by simp[hk])) h2.2⟩
   exact this _ (fun _ h=>h) hb.2
 intro l
 induction l with
 |nil=>intro _;rw[Fv];trivial
 |cons k l ih=>intro h;rw[C6,aca] at h;rw[Fv];exact⟨key _ k (ab5 _) h.1,ih h.2⟩
theorem bah (t:Ty) (v:Va) (r:List Va):Bg t (v::r)=if Gy t v !=0 then Gy t v else Bg t r:=by rw[Bg]
theorem aax {t:Ty} {x:Va} (hg:∀ m,Gp m t) (hv:okV x) {w:World} {v u:Value} (h:Rd CE w v t.d) (h':Rd CE w u x.d):Calls Tryz.prog 28 #[v,u] w fun e w'=>e= .returned (.int .i64 (Cn t x))∧w.grownBy w' none:=
 bab Tryz.func28 abv abv [t.d,x.d] (jz _ x t (ab5 _) hv (hg _)) rfl (bH h h')
theorem aj2 {nd:List Nod} {cs:List Col} {v:Va} {l:List Va} {r:List Col×Bool} (h:Cv nd cs (v::l)=some r):∃ c1 b,GV nd 0 cs v=some (c1,b)∧(b=true→Cv nd c1 l=some r)∧(b=false→r=(c1,false)):=by
 rw[Cv] at h;split at h
 · cases h
 · rename_i c1 hc;exact⟨c1,true,hc,fun _=>h,fun h=>by cases h⟩
 · rename_i c1 hc;cases h;exact⟨c1,false,hc,(fun h=>by cases h),fun _=>rfl⟩
structure WY (F:Nat→Prop) (base g N:Nat) (W5:World) (own5:Nat→Prop) (nd:List Nod) (vs:List Va) (r:List Col×Bool) (w:World) (fs:List Fd) (cs:List Col) (k:Nat):Prop where
 st:Stt F base g N W5 own5 w fs cs
 cb:Cb cs
 len:cs.length=N
 rest:Cv nd cs (vs.drop k)=some r
