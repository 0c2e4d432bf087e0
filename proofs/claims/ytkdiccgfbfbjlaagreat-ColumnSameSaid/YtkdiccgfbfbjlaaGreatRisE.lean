import Derived.Test.YtkdiccgfbfbjlaaGreatRisB
import Derived.OwnWalk
import Derived.Laws.AppendOwn
import Derived.Laws.OwnMore
set_option linter.unusedSectionVars false
namespace Go.Proofs.YtkdiccgfbfbjlaaGreat
open Go Go.Ev Go.RowKit Go.Lib Go.Sort
variable [Sh]
set_option maxRecDepth 100000
set_option maxHeartbeats 2000000 in
set_option maxRecDepth 100000 in
theorem bm6 (b off n c:Nat) (vs:List Value) (w:World) (hl:vs.length=n) (hn:n≤1000000) (hc:∀ j u,vs[j]? =some u→w.cell? ⟨b,off+j,none⟩=some u) (h1:∀ u∈vs,u.oneCell'=true):
   Calls Tryz.prog 125 #[.slice (some ⟨b,off,none⟩) n c] w fun e w'=>∃ v',e= .returned v'∧w'.ownsRow w.heap.size 65 1 v' n vs∧v'≠ .slice none 0 0∧Below w.heap.size w w':=by
 obtain⟨i0,hi,hz0,hz1,hz2⟩:=info_parts (P:=Tryz.prog) (e:=65) (z:= .slice none 0 0) (size:=1) (bytes:=24) abv;have q24:∀ (w:World) (a:Option Addr) (n c n' c':Nat),(binOp .eql 53 (.slice a n c) (.slice none n' c')).run Tryz.prog w= .ok (.bool a.isNone) w:=fun w a n c n' c'=>Lib.run_eql_slice_nil w _ _ a n c n' c' Tryz.underlying53
 have A:Aside (∀ j u,vs[j]? =some u→w.cell? ⟨b,off+j,none⟩=some u):=hc
 clear hc
 go_enter Tryz.func125,Tryz.ntmps125
 go_wp2_with (at_builtin;refine wpList_append_own _ rfl _ _ 53 rfl w.heap.size 65 i0 (.slice none 0 0) 1 24 Tryz.underlying53 hi hz0 hz1 hz2 rfl abx _ _ _ rfl (World.ownsRow_made w #[] 0 (ab5 _) (aco _) rfl) ⟨b,off,none⟩ n c vs rfl ?qc1 ?qc2 ?qc3 ?qc4 ?qc5 ?qc6 ?_)
 case qc1=>omega
 case qc2=>
   intro j u hj;rw[Addr.add_lit];exact Lib.cell?_alloc_some _ (A.out j u hj)
 case qc3=>exact h1
 case qc4=>unfold maxLen;omega
 case qc5=>omega
 case qc6=>simp
 intro v' w1 hown hgrow hnil
 go_wp2
 go_ret
 refine⟨v',rfl,by simpa using hown,?_,?_⟩
 · exact hnil
 · exact((Below.refl _ w).alloc (ab5 _) _).grown hgrow abw (by intro k hk;simp[Value.ownBlock] at hk;omega)
set_option maxHeartbeats 2000000 in
theorem bca (a:Addr) (c:Nat) (w:World):
   Calls Tryz.prog 125 #[.slice (some a) 0 c] w fun e w'=>∃ ad c',e= .returned (.slice ad 0 c')∧Below w.heap.size w w':=by
 obtain⟨i0,hi,hz0,hz1,hz2⟩:=info_parts (P:=Tryz.prog) (e:=65) (z:= .slice none 0 0) (size:=1) (bytes:=24) abv;have q24:∀ (w:World) (a:Option Addr) (n c n' c':Nat),(binOp .eql 53 (.slice a n c) (.slice none n' c')).run Tryz.prog w= .ok (.bool a.isNone) w:=fun w a n c n' c'=>Lib.run_eql_slice_nil w _ _ a n c n' c' Tryz.underlying53
 go_enter Tryz.func125,Tryz.ntmps125
 go_wp2_with (at_builtin;refine wpList_append_own _ rfl _ _ 53 rfl w.heap.size 65 i0 (.slice none 0 0) 1 24 Tryz.underlying53 hi hz0 hz1 hz2 rfl abx _ _ _ rfl (World.ownsRow_made w #[] 0 (ab5 _) (aco _) rfl) a 0 c [] rfl rfl (by intro j u hj;simp at hj) (by intro u hu;cases hu) (by unfold maxLen;omega) abu abw ?_)
 intro v' w1 hown hgrow hnil
 go_wp2
 go_ret
 have hb:=((Below.refl _ w).alloc (ab5 _) _).grown hgrow abw (by intro k hk;simp[Value.ownBlock] at hk;omega)
 rcases hown.2 with⟨rfl,_⟩|⟨g,cap,cur,rfl,_⟩
 · exact⟨_,_,rfl,hb⟩
 · exact⟨_,_,rfl,hb⟩
set_option maxHeartbeats 1000000 in
theorem ba5 (n c:Nat) (w:World):
  Calls Tryz.prog 125 #[.slice none n c] w fun e w'=>e= .returned (.slice none 0 0)∧w'=w:=by
 have q24:∀ (w:World) (a:Option Addr) (n c n' c':Nat),(binOp .eql 53 (.slice a n c) (.slice none n' c')).run Tryz.prog w= .ok (.bool a.isNone) w:=fun w a n c n' c'=>Lib.run_eql_slice_nil w _ _ a n c n' c' Tryz.underlying53
 go_enter Tryz.func125,Tryz.ntmps125
 go_wp2
 go_ret
 exact⟨rfl,rfl⟩
end Go.Proofs.YtkdiccgfbfbjlaaGreat
namespace Go.Proofs.YtkdiccgfbfbjlaaGreat
open Go Go.Ev Go.RowKit Go.Lib Go.Sort
variable [Sh]
set_option maxRecDepth 100000
theorem abk {x:Tx}:∀ {a:List Tx},ER a→(∀ y∈a,Op.bytesLess y x=true)→ER (a++[x])
 | [],_,_=>⟨by simp,trivial⟩
 |y::a,h,hx=>⟨fun z hz=>by
  rcases acz.1 hz with e|e
  · exact h.1 z e
  · rw[acv.1 e];exact hx y List.mem_cons_self,abk h.2 fun z hz=>hx z (acn _ hz)⟩
theorem a96 {T:Nat→Tx} {d:Array Nat} (hs:SortedIn (fun i j=>Op.bytesLess (T i) (T j)) 0 d.size d):∀ m,m≤d.size→ER ((cpT T d m).map T)∧∀ z,z∈(cpT T d m).map T↔∃ j,j<m∧T d[j]! =z
 |0,_=>⟨trivial,fun z=>by simp[cpT]⟩
 | m+1,hm=>by
  obtain⟨h1,h2⟩:=a96 hs m abu;rw[cpT];cases Bz:stays T d m with
  | false=>
   simp only[acb,if_false,List.append_nil];refine⟨h1,fun z=> ?_⟩
   rw[h2];have hm0:0<m∧T d[m]! =T d[m-1]! :=by
     unfold stays at Bz;simp only[ac3,ab6,bne_eq_false_iff_eq] at Bz;exact⟨by have:=Bz.1;omega,Bz.2⟩
   constructor
   · rintro ⟨j,hj,e⟩;exact⟨j,by omega,e⟩
   · rintro ⟨j,hj,e⟩
     by_cases hjm:j<m
     · exact⟨j,hjm,e⟩
     · have:j=m:=abu
       subst this;exact⟨j-1,by omega,by rw[← hm0.2];exact e⟩
  | true=>
   simp only[if_true,List.map_append,List.map_cons,List.map_nil];refine⟨abk h1 fun y hy=> ?_,fun z=> ?_⟩
   · obtain⟨j,hj,rfl⟩:=(h2 y).1 hy
     have Ai:T d[m]! ≠T d[m-1]! :=by
       unfold stays at Bz;simp only[acu,acg,bne_iff_ne] at Bz;rcases Bz with e|e
       · omega
       · exact e
     have h3:=hs (m-1) m abu abu abu;have h4:Op.bytesLess (T d[m-1]!) (T d[m]!)=true:=by
       rcases ab2 (Op.bytesLess (T d[m-1]!) (T d[m]!)) with e|e
       · exact e
       · exact absurd (alf h3 e) Ai
     by_cases hjm:j=m-1
     · rw[hjm];exact h4
     · exact t6 (hs j (m-1) abu abu abu) h4
   · rw[acz,h2,acv]
     constructor
     · rintro (⟨j,hj,e⟩|e)
       · exact⟨j,by omega,e⟩
       · exact⟨m,by omega,e.symm⟩
     · rintro ⟨j,hj,e⟩
       by_cases hjm:j<m
       · exact .inl ⟨j,hjm,e⟩
       · have:j=m:=abu
         subst this;exact .inr e.symm
theorem bm1 {l:List Tx} {T:Nat→Tx} {d:Array Nat} (hT:∀ i x,l[i]? =some x→T i=x) (hp:PermIn 0 l.length (Array.range l.length) d) (hs:SortedIn (fun i j=>Op.bytesLess (T i) (T j)) 0 l.length d):(cpT T d l.length).map T=BI l:=by
 obtain⟨hz,_,hperm⟩:=hp;rw[Array.size_range] at hz;rw[← hz] at hs;obtain⟨h1,h2⟩:=a96 hs d.size (ab5 _);rw[hz] at h1 h2;refine(abm h1 fun z=> ?_).symm
 rw[h2];have hmem:∀ i,i∈d.toList↔i<l.length:=fun i=>by
   have e1:d.extract 0 l.length=d:=by rw[← hz];simp
   have e2:(Array.range l.length).extract 0 l.length=Array.range l.length:=by
    have:=Array.extract_size (xs:=Array.range l.length)
    rwa [Array.size_range] at this
   rw[e1,e2] at hperm;rw[hperm.mem_iff];simp
 constructor
 · rintro ⟨j,hj,rfl⟩
   have hj':j<d.size:=abu;have h3:=(hmem d[j]!).1 (by rw[getElem!_pos d j hj'];simp)
   rw[hT _ _ (ab0 h3)];exact List.getElem_mem h3
 · intro hzl
   obtain⟨i,hi,rfl⟩:=List.mem_iff_getElem.1 hzl;have h3:=(hmem i).2 hi;obtain⟨j,hj,e⟩:=List.mem_iff_getElem.1 h3;refine⟨j,by simpa[hz] using hj,?_⟩
   have hj':j<d.size:=by simpa using hj
   rw[getElem!_pos d j hj',show d[j]=i by simpa using e]
   exact hT i _ (ab0 hi)
theorem Ww (T:Nat→Tx):SWO (fun i j=>Op.bytesLess (T i) (T j)) where
 irrefl:=fun x=>alg _
 trans:=fun x y z h k=>lu h k
 ntrans:=fun x y z h k=>by
  rcases ab2 (Op.bytesLess (T x) (T z)) with e|e
  · have:=t6 (x:=T y) (y:=T x) (z:=T z) h e
    rw[this] at k;cases k
  · exact e
end Go.Proofs.YtkdiccgfbfbjlaaGreat
namespace Go.Proofs.YtkdiccgfbfbjlaaGreat
open Go Go.Ev Go.RowKit Go.Lib Go.Sort
variable [Sh]
set_option maxRecDepth 100000
set_option maxHeartbeats 4000000 in
theorem ak5 (a:Option Addr) (c:Nat) (w:World):Calls Tryz.prog 127 #[.slice a 0 c,.func (.func 128) #[] #[]] w fun e w'=>e= .returned (.slice a 0 c)∧w'=w:=by
 go_enter Tryz.func127,Tryz.ntmps127
 go_wp2
 go_ret
 exact⟨rfl,rfl⟩
theorem mc (p:Option Addr) (n c:Nat):Reaches Tryz.prog 155 (.slice p n c) "Len" 230:=⟨fun _=>by kernel_rfl,enters_of Tryz.func230 abv rfl⟩
theorem akf (p:Option Addr) (n c:Nat):Reaches Tryz.prog 155 (.slice p n c) "Less" 231:=⟨fun _=>by kernel_rfl,enters_of Tryz.func231 abv rfl⟩
theorem aa3 (p:Option Addr) (n c:Nat):Reaches Tryz.prog 155 (.slice p n c) "Swap" 232:=⟨fun _=>by kernel_rfl,enters_of Tryz.func232 abv rfl⟩
theorem gr {F:Nat→Prop} {E:Nat→Value} {w:World} {A3 off m:Nat} {dk:Array Nat} {os:Array Obj} (hF:∀ b,F b→b≠A3∧b<w.heap.size) {v:Value} {x:D} (h:Rd F w v x):Rd F (sortWorld E w A3 off m dk os) v x:=
 h.mono fun b o u hb hc=>⟨hb,by
  obtain⟨h1,h2⟩:=hF b hb;unfold sortWorld;rw[cell?_grow _ _ _ (by simpa using h2),cell?_putRow_other _ _ _ _ _ _ (.inl h1),cell?_ahead]
  exact hc⟩
theorem bar {F:Nat→Prop} (E:Nat→Value) (T:Nat→Tx) (A3 c n:Nat) (w:World) (hn:0<n) (hsz:n≤1000000) (hF:∀ b,F b→b≠A3∧b<w.heap.size) (hblk:A3<w.heap.size) (hS:∀ i,∃ p m c,E i= .slice p m c) (hR:∀ i,Rd F w (E i) (BA (T i)))
   (hH:Holds E w A3 0 (Array.range n)):
   Calls Tryz.prog 126 #[.iface 155 (.slice (some ⟨A3,0,none⟩) n c)] w fun e w'=>e= .returned (.tuple #[])∧∃ d' q os,PermIn 0 n (Array.range n) d'∧SortedIn (fun i j=>Op.bytesLess (T i) (T j)) 0 n d'∧w'=sortWorld E w A3 0 q d' os:=by
 by_cases h1:n≤1
 · refine(Tryz.sort_Sort_tiny (α:=Nat) 155 (.slice (some ⟨A3,0,none⟩) n c) 230 (mc _ _ _) n h1 w (sq _ _ _ _)).mono fun e w' ⟨h2,q,h3⟩=>⟨h2,Array.range n,q,#[],⟨rfl,fun _ _=>rfl,.refl _⟩,fun i j _ _ _=>by omega,?_⟩
   rw[h3];unfold sortWorld;rw[grow_empty];exact(putRow_self E (Sort.ahead w q) A3 0 _ (holds_ahead E w q A3 0 _ hH)).symm
 · have hs:(Array.range n).size=n:=Array.size_range
   have hless:LessM Tryz.prog 231 (.slice (some ⟨A3,0,none⟩) n c) E (fun i j=>Op.bytesLess (T i) (T j)) A3 0 (Array.range n).size w:=fun m os dk hd i j hi hj=>by
    rw[hs] at hd hi hj;have hh:=holds_sortWorld E w A3 0 m _ dk os hblk hH (by rw[hd,hs])
    exact bbg A3 0 c n _ _ _ _ _ i j hi hj abu (hh i abu).1 (hh j abu).1 (gr hF (hR _)) (gr hF (hR _))
   have hswap:SwapM Tryz.prog 232 (.slice (some ⟨A3,0,none⟩) n c) E A3 0 (Array.range n).size:=fun W dk hh hd i j hi hj=>by
    rw[hs] at hd hi hj;obtain⟨p,m,d,e1⟩:=hS dk[i]!;obtain⟨q,m',d',e2⟩:=hS dk[j]!;rw[e1,e2];have h1:=hh i abu;have h2:=hh j abu;rw[e1] at h1;rw[e2] at h2;exact baq A3 0 c n W p q m m' d d' i j hi hj abu h1.1 h2.1 h1.2 h2.2
   have:=Tryz.sort_Sort_sorted 155 (.slice (some ⟨A3,0,none⟩) n c) 230 231 232 (mc _ _ _) (akf _ _ _) (aa3 _ _ _) E (fun i j=>Op.bytesLess (T i) (T j)) (Ww T) A3 0 (Array.range n) abu abu w
    (by rw[hs];exact sq _ _ _ _) hless hswap hH hblk
   rw[hs] at this;exact this
theorem ug {E:Nat→Value} {w:World} {A3 off q:Nat} {d:Array Nat} {os:Array Obj} (hblk:A3<w.heap.size):(∀ b,b<w.heap.size→b≠A3→(sortWorld E w A3 off q d os).heap[b]? =w.heap[b]?)∧w.heap.size≤(sortWorld E w A3 off q d os).heap.size∧Bh w (sortWorld E w A3 off q d os)∧
   (∀ o,(∃ u,w.cell? (ad3 A3 o)=some u)→(∃ u,(sortWorld E w A3 off q d os).cell? (ad3 A3 o)=some u)∧(sortWorld E w A3 off q d os).frozen? (ad3 A3 o)=w.frozen? (ad3 A3 o))∧(DQ w A3→DQ (sortWorld E w A3 off q d os) A3):=by
 have hO:BR A3 w (putRow E (Sort.ahead w q) A3 off d):=ma (mb (lj A3 w) q) (py E _ A3 off d);have hg:∀ b,b<w.heap.size→(sortWorld E w A3 off q d os).heap[b]? =(putRow E (Sort.ahead w q) A3 off d).heap[b]? :=fun b hb=>heap_grow_old _ _ (by rw[hO.size];exact hb)
 refine⟨fun b hb Ai=>(hg b hb).trans (hO.other b Ai),?_,⟨rfl,rfl,rfl⟩,fun o hu=>⟨?_,?_⟩,fun h=>(hO.Bo h).heap (hg A3 hblk)⟩
 · simp[sortWorld,grow]
 · obtain⟨u,hu⟩:=hu
   rw[Ap (hg A3 hblk)];exact hO.Ac o u hu
 · rw[bn (hg A3 hblk)]
   exact hO.Gb o hu
set_option maxHeartbeats 4000000 in
theorem abj (ad:Option Addr) (cap:Nat) (w:World):Calls Tryz.prog 89 #[.slice ad 0 cap] w fun e w'=>∃ ad' c',e= .returned (.slice ad' 0 c')∧Below w.heap.size w w':=by
 have hC:Calls Tryz.prog 125 #[.slice ad 0 cap] w fun e w'=>∃ ad c',e= .returned (.slice ad 0 c')∧Below w.heap.size w w':=by
  cases ad with
  |none=>exact(ba5 0 cap w).mono fun e w' ⟨h1,h2⟩=>⟨none,0,h1,by rw[h2];exact Below.refl _ _⟩
  |some a=>exact bca a cap w
 go_enter Tryz.func89,Tryz.ntmps89
 go_wp2_with (go_at_call 125;refine hC.mono ?_;rintro e w1 ⟨ad1,c1,rfl,hB⟩)
 have hT:=Tryz.sort_Sort_tiny (α:=Nat) 155 (.slice ad1 0 c1) 230 (mc _ _ _) 0 abu w1 (sq _ _ _ _)
 go_wp2_with (go_at_call 126;refine hT.mono ?_;rintro e w2 ⟨rfl,q,rfl⟩)
 go_wp2_with (go_at_call 127;refine(ak5 _ _ _).mono ?_;rintro e w3 ⟨rfl,rfl⟩)
 go_wp2
 go_ret
 exact⟨_,_,rfl,hB.os,hB.tape,hB.output,hB.size,hB.block⟩
