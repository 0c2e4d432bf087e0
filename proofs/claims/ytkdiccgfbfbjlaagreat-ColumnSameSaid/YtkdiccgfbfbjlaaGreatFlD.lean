import Derived.Test.YtkdiccgfbfbjlaaGreatFlB
import Derived.RangeFuncBox
import Derived.Shelf.Abstract
import Derived.WalkKit
import Derived.RegionTactic
import Derived.Deep.LoopGhost
import Derived.Deep.Draws
import Derived.Deep.QuietTactic
import Derived.Deep.DeepMust
namespace Go.Proofs.YtkdiccgfbfbjlaaGreat
open Go Go.Ev Go.RowKit
set_option maxRecDepth 100000 in
set_option maxHeartbeats 400000 in
theorem wg:∀ (m:Nat) (t:Ty),t.size≤m→∀ (F:Nat→Prop) (base:Nat) (hF:∀ b,F b→b<base) (W:World) (lv l:Value) (hlv:aar lv l) (ns:List NV) (parent deep:Int) (c0 c1 c2 c3 c4 c5:Value),
  CI base W l ns→base≤W.heap.size→ns.length+t.size≤1000000→inI parent→0≤deep∧deep+t.size≤10000→Ce F W [c0,c1,c2,c3,c4,c5] t→
  Calls Tryz.prog 30 #[lv,.agg #[c0,c1,c2,c3,c4,c5],.int .i64 parent,.int .i64 deep] W fun e W'=>∃ l' ns',e= .returned l'∧CI base W' l' (ns++ns')∧Ci W W' (FQ l ns) (FQ l' (ns++ns'))∧ns'.map NV.sig=Bq ns.length parent deep t∧(∀ n∈ns',Ce F W' n.tv n.ty)∧ns'≠[]
 |0,t,h=>by have:=t.size_pos;omega
 | m+1,t,h=>by
  intro F base hF W lv l hlv ns parent deep c0 c1 c2 c3 c4 c5 inv hb hsz hp hd B7;obtain⟨iN,hiN,hzN0,hzN1,hzN2⟩:=info_parts (P:=Tryz.prog) (e:=TN) (z:= .agg #[.int .i64 0,.slice none 0 0,.slice none 0 0,.int .i64 0,.int .i64 0,.int .i64 0,.slice none 0 0,.int .i64 0,.int .i64 0]) (size:=9) (bytes:=120) abv;obtain⟨iI,hiI,hzI0,hzI1,hzI2⟩:=info_parts (P:=Tryz.prog) (e:=TI) (z:= .int .i64 0) (size:=1) (bytes:=8) abv;have hone:∀ u∈[c0,c1,c2,c3,c4,c5,.slice none 0 0,.int .i64 parent,.int .i64 deep],u.oneCell'=true:=by
   intro u hu;have:=B7.one;simp only[ach,adk,or_false] at hu this;rcases hu with rfl|rfl|rfl|rfl|rfl|rfl|rfl|rfl|rfl<;>first|rfl|exact this _ abw
  obtain⟨ka,kc,rfl,hkid⟩:=B7.kids
  replace hkid:Aside _:=hkid
  have A:Aside (Ce F W [c0,c1,.slice ka t.kids.length kc,c3,c4,c5] t):=B7;have I0:Aside (CI base W l ns):=inv;clear B7 inv;have hl0:∃ a c,l= .slice a ns.length c:=I0.isSlice
  obtain⟨la,lc,rfl⟩:=hl0;have hlv0:∃ va vc,lv= .slice va ns.length vc:=by
   rcases hlv with rfl|⟨e,ad,rfl⟩
   · exact⟨_,_,rfl⟩
   · have e0:ns.length=0:=(Value.slice.inj e).2.1
     exact⟨_,_,by rw[e0]⟩
  obtain⟨va,vc,rfl⟩:=hlv0
  replace hlv:Aside (aar (.slice va ns.length vc) (.slice la ns.length lc)):=hlv
  go_enter Tryz.func30,Tryz.ntmps30
  go_wp2_with (first
   | (at_builtin;refine oe _ rfl _ _ 34 rfl base TN iN _ 9 120 rfl hiN hzN0 hzN1 hzN2 rfl abx _ _ hlv.out _ _ rfl ((I0.row.alloc _).alloc _) ⟨W.heap.size+1,0,none⟩ 1 [c0,c1,.slice ka t.kids.length kc,c3,c4,c5,.slice none 0 0,.int .i64 parent,.int .i64 deep] rfl rfl (kq _ _ _ _ abw) hone (by unfold maxLen;omega) abu (by simp;omega) ?_;intro v' w1 hown1 hgrow1 hloc1)
   |go_in)
  have g0:=World.grownBy_alloc W (.cells #[c0,c1,.slice ka t.kids.length kc,c3,c4,c5] 25) none;have L0:Aside (Cg F base (W.alloc (.cells #[c0,c1,.slice ka t.kids.length kc,c3,c4,c5] 25)) (.slice la ns.length lc) ns parent deep t [c0,c1,.slice ka t.kids.length kc,c3,c4,c5] w1 v' _ [] 0):=
   Cg.start hF I0 hb A g0 ((World.grownBy_alloc _ _ _).trans hgrow1) hown1 (hloc1.imp id fun h=>⟨_,h,by simp⟩)
  clear hown1 hgrow1 hloc1 g0
  go_loopw [0,10] (fun v i wl=>∃ (k:Nat) (nd:NV) (ns':List NV),k≤t.kids.length∧i= .int .i64 k∧Aside (Cg F base (W.alloc (.cells #[c0,c1,.slice ka t.kids.length kc,c3,c4,c5] 25)) (.slice la ns.length lc) ns parent deep t [c0,c1,.slice ka t.kids.length kc,c3,c4,c5] wl v nd ns' k))
   (fun _ i _=>t.kids.length-(intOf i).toNat)
  case atStart=>exact⟨0,_,[],aco _,rfl,L0⟩
  case round=>
   obtain⟨k,nd,ns',hk,rfl,L⟩:=hrel;obtain⟨g,c,e⟩:=L.inv.V9 abw;obtain⟨N,hN⟩:∃ N,(ns++nd::ns').length=N:=⟨_,rfl⟩
   rw[hN] at e;subst e;have hbox:wr.cell? ⟨W.heap.size,2,none⟩=some (.slice ka t.kids.length kc):=L.cell I0 (.inr (ab5 _)) abw;have hlen:=L.len;have hNk:N=ns.length+1+Ty.Aq (t.kids.take k):=by rw[← hN,← hlen];simp;omega
   have hts:=t.size_eq;by_cases hlt:k<t.kids.length
   · obtain⟨x,hx⟩:∃ x,t.kids[k]? =some x:=⟨_,ab0 hlt⟩
     have hsk:=mt t.kids k x hx;have hxp:=x.size_pos;obtain⟨kb,ko,rfl,hFb,x0,x1,x2,x3,x4,x5,m0,m1,m2,m3,m4,m5,rx⟩:=hkid k x hx;have hkb:=hF kb hFb;have mv:∀ o u,W.cell? (ad3 kb o)=some u→wr.cell? (ad3 kb o)=some u:=fun o u hu=>
       L.cell I0 (.inl hkb) ((fu ((World.grownBy_alloc W _ none).block kb abu abw)).trans hu)
     replace m0:=mv _ _ m0
     replace m1:=mv _ _ m1
     replace m2:=mv _ _ m2
     replace m3:=mv _ _ m3
     replace m4:=mv _ _ m4
     replace m5:=mv _ _ m5
     have rx1:Ce F wr [x0,x1,x2,x3,x4,x5] x:=rx.kept fun b hb'=>by
       have hbb:=hF b hb';have h1:=L.fr.block b (by simp;omega) (fun ho=>by have:=I0.lt ho;omega)
       exact h1.trans ((World.grownBy_alloc W _ none).block b abu abw)
     have ih:=wg m x abu F base hF wr _ _ (.inl rfl) _ (ns.length:Int) (deep+1) x0 x1 x2 x3 x4 x5 L.inv (ac7 hb (ac7 abw L.fr.size)) (by rw[hN];omega) (by unfold inI;omega) abu rx1
     have hNb:N≤1000000:=abu;have hNs:N+x.size≤1000000:=abu;have hdx:deep+1+x.size≤10000:=abu;have hnl:ns.length<N:=abu;have hkm:t.kids.length≤1000000:=by have:=nj t.kids;omega
     have hkl:nd.ks.length≤1000000:=by have:=nj t.kids;rw[L.P2,ss,adp];omega
     replace hN:Aside _:=hN
     replace hNk:Aside _:=hNk
     replace hx:Aside _:=hx
     replace ih:Aside _:=ih
     clear mv rx rx1 hlen hts hsk
     go_wp2_with (first
       | (go_at_call 30;go_must (
        refine Calls.mono (Aside.out ih) ?_;rintro e w2 ⟨l',ns2,rfl,inv2,fr2,sig2,rd2,ne2⟩;obtain⟨g2,c2,e⟩:=inv2.V9 abw;obtain⟨N2,hN2⟩:∃ N2,(ns++nd::ns'++ns2).length=N2:=⟨_,rfl⟩
        rw[hN2] at e;subst e;have hn2:ns.length<N2:=by rw[← hN2,aci,aci,List.length_cons];omega
        have hat:(ns++nd::ns'++ns2)[ns.length]? =some nd:=by simp
        have hk2:=inv2.QX hN2 hat;have hkr:=inv2.kid _ _ hat;obtain⟨hkc,hkf⟩:=hk2;obtain⟨qa,qc,hkv⟩:=d6 hkr;rw[hkv] at hkc
        replace hkv:Aside _:=hkv
        replace hat:Aside _:=hat
        replace hN2:Aside _:=hN2
        replace hkr:Aside _:=hkr
        replace inv2:Aside _:=inv2
        replace fr2:Aside _:=fr2
        replace sig2:Aside _:=sig2
        replace rd2:Aside _:=rd2
        clear ne2 hbox m0 m1 m2 m3 m4 m5 ih))
       | (at_builtin;go_must (
        refine wpList_append_own_at _ rfl _ _ 48 rfl base TI iI _ 1 8 rfl hiI hzI0 hzI1 hzI2 rfl abx _ _ _ rfl (World.ownsRow.alloc (w:=w2) (base:=base) (e:=TI) (size:=1) (v:= .slice qa nd.ks.length qc) (n:=nd.ks.length) (xs:=Em nd.ks) (hkv.out ▸ Aside.out hkr) _) ⟨w2.heap.size,0,none⟩ 1 1 [.int .i64 N] rfl rfl (cell_one_new _ _ _) (ints_oneCell .i64 [(N:Int)]) (by unfold maxLen;omega) abu (by have:=fr2.out.size;have:=L.fr.size;simp at *;omega) ?_
        intro v3 w3 hown3 hgrow3 hnil3 hloc3;obtain⟨r3,s3,e3⟩:=d6 hown3;subst e3;have hall:w2.grownBy w3 nd.kv.ownBlock:=by rw[hkv.out];exact(World.grownBy_alloc w2 _ _).trans hgrow3
        obtain⟨h3c,h3f⟩:=inv2.out.Ug hN2.out hat.out hall;rw[hkv.out] at h3c;have L1:Aside (Cg F base (W.alloc (.cells #[c0,c1,.slice (some (ad3 kb ko)) t.kids.length kc,c3,c4,c5] 25)) (.slice la ns.length lc) ns parent deep t [c0,c1,.slice (some (ad3 kb ko)) t.kids.length kc,c3,c4,c5] (w3.setCell ⟨g2,ns.length*9+6,none⟩ (.slice r3 (nd.ks.length+1) s3)) _ _ _ (k+1)):=
         Cg.step L.out hF (by have:=L.fr.size;simp at *;omega) hx.out hN.out hN2.out inv2.out fr2.out sig2.out rd2.out hown3 hall (by rw[hkv.out];exact hloc3.imp id fun h=>⟨_,h,by simp⟩)
        clear hown3 hgrow3 hnil3 hloc3 hall hkv hat hkr inv2 fr2 sig2 rd2 hN2 hkc hkf))
       |go_in)
     go_roundw
     case rel=>exact⟨k+1,_,_,by omega,by go_num,L1⟩
     case measure=>simp[intOf];omega
   · have hkk:k=t.kids.length:=abu
     subst hkk;clear hlt hlen hN hNk hts
     go_wp2
     go_ret
     have L:=L.out;refine⟨_,nd::ns',rfl,L.inv,?_,?_,?_,by simp⟩
     · exact Ci.trans (Ci.grown (World.grownBy_alloc W _ none) abw (fun k h=> .inl h)) L.fr
     · rw[List.map_cons,L.sig,List.take_length,jk]
       simp only[NV.sig,L.hty,L.P2,L.Un,L.Z9,List.take_length]
     · exact L.rd
end Go.Proofs.YtkdiccgfbfbjlaaGreat
namespace Go.Proofs.YtkdiccgfbfbjlaaGreat
open Go Go.Ev Go.RowKit
theorem aa1 (f:D→Option Ty):∀ (l:List Ty),(∀ t∈l,f t.d=some t)→Hd f (l.map Ty.d)=some l
 | [],_=>rfl
 |t::l,h=>by rw[List.map_cons,Hd,h t abw,aa1 f l fun x hx=>h x (by simp[hx])]
theorem bco:∀ (n:Nat) (t:Ty),t.size≤n→Wu n t.d=some t
 |0,t,h=>by have:=t.size_pos;omega
 | n+1,t,h=>by
  have hk:Hd (Wu n) (t.kids.map Ty.d)=some t.kids:=aa1 _ _ fun x hx=>bco n x (by have:=t.A8 hx;omega)
  rw[t.DE,Wu,oq,hk];cases t;rfl
theorem Ws {F:Nat→Prop} {w:World} {v:Value} {t:Ty} (h:Rd F w v t.d):∃ c0 c1 c2 c3 c4 c5,v= .agg #[c0,c1,c2,c3,c4,c5]∧Ce F w [c0,c1,c2,c3,c4,c5] t:=by
 have hc:=Au t;rw[t.DE] at h;cases h with
 | agg vs cs hl hcc hr=>
  match vs,hl with
  | [c0,c1,c2,c3,c4,c5],_=>exact⟨c0,c1,c2,c3,c4,c5,rfl,rfl,fun i v c hv hd=>hr i v c hv (by rw[hc] at hd;exact hd)⟩
theorem bl7:∀ (ns:List NV) (i:Nat) (n:NV),(∀ m∈ns,m.tv.length=6)→ns[i]? =some n→∀ j,j<9→(ns.flatMap NV.cells)[i*9+j]? =n.cells[j]?
 | [],i,n,_,h,j,hj=>by simp at h
 | m::ns,0,n,h6,h,j,hj=>by
  have e:m=n:=by simpa using h
  subst e;have h9:m.cells.length=9:=by have:=h6 m abw;simp[NV.cells,this]
  rw[List.flatMap_cons,Nat.zero_mul,Nat.zero_add,ada abu]
 | m::ns,i+1,n,h6,h,j,hj=>by
  have h9:m.cells.length=9:=by have:=h6 m abw;simp[NV.cells,this]
  rw[List.flatMap_cons,List.getElem?_append_right abu,h9,show(i+1)*9+j-9=i*9+j by omega]
  exact bl7 ns i n (fun x hx=>h6 x (by simp[hx])) h j hj
