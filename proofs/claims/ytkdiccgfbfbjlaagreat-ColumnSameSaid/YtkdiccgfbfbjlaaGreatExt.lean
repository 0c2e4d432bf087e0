import Derived.Test.YtkdiccgfbfbjlaaGreatRisE
import Derived.Test.YtkdiccgfbfbjlaaGreatCode
import Derived.Test.YtkdiccgfbfbjlaaGreatL10
import Derived.WalkKit
import Derived.Maps.Own
import Derived.Maps.Views
import Derived.StringKeys
import Derived.Deep.LoopGhost
import Derived.Test.YtkdiccgfbfbjlaaGreatMT
set_option linter.unusedSectionVars false
namespace Go.Proofs.YtkdiccgfbfbjlaaGreat
open Go Go.Ev Go.RowKit Go.Lib Go.Sort
variable [Sh]
set_option maxRecDepth 100000
set_option maxHeartbeats 4000000 in
theorem alw {F:Nat→Prop} (v:Value) (l:List Tx) (w:World) (Ai:l≠[]) (hl:l.length≤1000000) (hv:Rd F w v (.sl (l.map BA))):
   Calls Tryz.prog 89 #[v] w fun e w'=>∃ g cap,e= .returned (.slice (some (ad3 g 0)) (BI l).length cap)∧w.heap.size≤g∧g<w'.heap.size∧(BI l).length≤cap∧DQ w' g∧Arr (fun b=>F b∧b<w.heap.size) w' g 0 cap 1 ((BI l).map BA)∧
     w.heap.size≤w'.heap.size∧(∀ b,b<w.heap.size→w'.heap[b]? =w.heap[b]?)∧Bh w w':=by
 obtain⟨b,o,cap,vs,rfl,Ag,B7⟩:∃ b o cap,∃ vs:Nat→Value,v= .slice (some (ad3 b o)) l.length cap∧(∀ i,i<l.length→w.cell? (ad3 b (o+i))=some (vs i))∧∀ i x,l[i]? =some x→Rd F w (vs i) (BA x):=by
   generalize hd:l.map BA=es at hv;cases hv with
   |slA ad cap=>exact absurd (by simpa using hd) Ai
   | sl b o len cap z es vs hlen Ad hz hc hm hr=>
     subst hd;rw[aby] at hlen;subst hlen;have hz1:z=1:=by
      cases l with
      |nil=>exact absurd rfl Ai
      |cons y r=>exact(hz (BA y) abw).symm
     subst hz1;have he:∀ i x,l[i]? =some x→(l.map BA)[i]? =some (BA x):=fun i x hx=>by rw[acf,hx];rfl
     refine⟨b,o,cap,fun i=>vs i 0,rfl,fun i hi=> ?_,fun i x hx=>hr i _ (he i x hx) 0 (BA x) rfl⟩
     have:=(hm i _ (he i _ (ab0 hi)) 0 _ rfl).2;simpa using this
 have hn:0<l.length:=List.length_pos_iff.2 Ai;obtain⟨E,hE⟩:∃ E:Nat→Value,E=fun i=>vs (min i (l.length-1)):=⟨_,rfl⟩
 obtain⟨T,hTd⟩:∃ T:Nat→Tx,T=fun i=>(l[min i (l.length-1)]?).getD []:=⟨_,rfl⟩
 have hT:∀ i x,l[i]? =some x→T i=x:=fun i x hx=>by
   have hlt:=(ab1.1 hx).1;rw[hTd];simp only;rw[show min i (l.length-1)=i by omega,hx]
   rfl
 have hER:∀ i,Rd F w (E i) (BA (T i)):=fun i=>by
   have hm:min i (l.length-1)<l.length:=abu;rw[hE,hTd];simp only;rw[ab0 hm];exact B7 _ _ (ab0 hm)
 have hEc:∀ i,i<l.length→E i=vs i:=fun i hi=>by rw[hE];simp only;rw[show min i (l.length-1)=i by omega]
 have hS:∀ i,∃ p m c,E i= .slice p m c:=fun i=>by
   obtain⟨ad,cap,h,_⟩:=(by have:=hER i;rw[xe] at this;exact this.G3)
   exact⟨_,_,_,h⟩
 have hone:∀ u∈(List.range l.length).map vs,u.oneCell'=true:=fun u hu=>by
   obtain⟨i,hi,rfl⟩:=adl.1 hu;rw[← hEc i (ad0.1 hi)];obtain⟨p,m,c,e⟩:=hS i;rw[e];rfl
 have hC:=bm6 b o l.length cap ((List.range l.length).map vs) w abw hl (fun j u hj=>by
   rw[acf,abz] at hj;obtain⟨i,hi,rfl⟩:=hj;have hlt:=(ab1.1 hi).1;rw[ab0 hlt] at hi;simp at hi hlt;subst hi;exact Ag j hlt) hone
 have hC2:Calls Tryz.prog 125 #[.slice (some ⟨b,o,none⟩) l.length cap] w fun e w1=>∃ g c1,e= .returned (.slice (some ⟨g,0,none⟩) l.length c1)∧w.heap.size≤g∧g<w1.heap.size∧l.length≤c1∧DQ w1 g∧Holds E w1 g 0 (Array.range l.length)∧
     (∀ j,j<c1→(∃ u,w1.cell? (ad3 g j)=some u)∧w1.frozen? (ad3 g j)=false)∧Below w.heap.size w w1:=by
   refine hC.mono fun e w1 ⟨v',he,hown,hnn,hB⟩=> ?_
   rcases hown.2 with⟨h,_⟩|⟨g,c1,cur,rfl,hbg,hg,hnc,hcm,hcs,htake⟩
   · exact absurd h hnn
   have hcell1:∀ j,w1.cell? (ad3 g j)=cur[j]? :=fun j=>by simp[World.cell?,hg]
   have hfz:∀ j,w1.frozen? (ad3 g j)=false:=fun j=>by simp[World.frozen?,hg]
   refine⟨g,c1,he,hbg,(act.1 hg).1,hnc,fun c t lo hi h hne'=> ?_,fun j hj=>⟨?_,hfz _⟩,fun j hj=>⟨⟨cur[j]'(by omega),?_⟩,hfz j⟩,hB⟩
   · rw[hg] at h;cases h;exact absurd rfl hne'
   · rw[Array.size_range] at hj
     have h1:=hcell1 (0+j);rw[Nat.zero_add] at h1 ⊢;refine Eq.trans h1 ?_;have h2:cur.toList[j]? =some (vs j):=by
      have:=congrArg (·[j]?) htake
      simp only[acf,List.getElem?_range hj] at this;rw[List.getElem?_take_of_lt abu] at this;exact this
     rw[← Array.getElem?_toList,h2,getElem!_pos _ _ (by rw[Array.size_range];exact hj),Array.getElem_range,hEc j hj]
   · rw[hcell1];exact acm _
 clear hC hone Ag B7 hv hE hTd;have HER:Aside (∀ i,Rd F w (E i) (BA (T i))):=hER
 have HS:Aside (∀ i,∃ p m c,E i= .slice p m c):=hS
 have HT:Aside (∀ i x,l[i]? =some x→T i=x):=hT
 clear hER hS hT hEc
 go_enter Tryz.func89,Tryz.ntmps89
 go_wp2_with (go_at_call 125;refine hC2.mono ?_;rintro e w1 ⟨g,c1,rfl,hg1,hg2,hc1,hNF,hH,hroom,hB⟩)
 have hF1:∀ b,(F b∧b<w.heap.size)→b≠g∧b<w1.heap.size:=fun b hb=>⟨by omega,ac1 hb.2 hB.size⟩
 have hR1:∀ i,Rd (fun b=>F b∧b<w.heap.size) w1 (E i) (BA (T i)):=fun i=>(HER.out i).mono fun b o u hF hc=>by
   have hlt:b<w.heap.size:=by have:=World.block_lt_of_cell? _ _ hc;simpa using this
   exact⟨⟨hF,hlt⟩,by rw[Ap (hB.block b hlt)];exact hc⟩
 have hSo:=bar E T g c1 l.length w1 hn hl hF1 hg2 HS.out hR1 hH
 go_wp2_with (go_at_call 126;refine hSo.mono ?_;rintro e w2 ⟨rfl,d',q,os,hP,hSS,rfl⟩)
 have hz:d'.size=l.length:=by have:=hP.1;rwa [Array.size_range] at this
 have hH2:Holds E (sortWorld E w1 g 0 q d' os) g 0 d':=holds_sortWorld E w1 g 0 q _ d' os hg2 hH (by rw[hz,Array.size_range])
 obtain⟨o1,o2,o3,o4,o5⟩:=ug (E:=E) (w:=w1) (A3:=g) (off:=0) (q:=q) (d:=d') (os:=os) hg2;have hcp:=aq5 (F:=fun b=>F b∧b<w.heap.size) E T g 0 c1 d' (sortWorld E w1 g 0 q d' os) HS.out (fun b hb=>(hF1 b hb).1) (fun i=>gr hF1 (hR1 i)) hH2 abu abu
 have hR2:∀ i,Rd (fun b=>F b∧b<w.heap.size) (sortWorld E w1 g 0 q d' os) (E i) (BA (T i)):=fun i=>gr hF1 (hR1 i)
 rw[hz] at hcp;generalize sortWorld E w1 g 0 q d' os=w2 at hcp o1 o2 o3 o4 o5 hR2 hH2 ⊢
 go_wp2_with (go_at_call 127;refine hcp.mono ?_;rintro e w3 ⟨rfl,hO,hcells⟩)
 go_wp2
 go_ret
 have hrise:=bm1 HT.out hP hSS;have hlen:(cpT T d' l.length).length=(BI l).length:=by rw[← hrise,aby]
 have hlr:=gq l;refine⟨g,c1,by rw[hlen];rfl,hg1,?_,by omega,hO.Bo (o5 hNF),⟨by decide,fun j hj=> ?_,fun e he=> ?_,fun e he c hc=> ?_,fun i e he j c hc=> ?_⟩,?_,fun b hb=> ?_,?_⟩
 · rw[hO.size];omega
 · rw[Nat.mul_one] at hj
   obtain⟨h1,h2⟩:=hroom j hj;obtain⟨h3,h4⟩:=o4 j h1;rw[Nat.zero_add];exact⟨let⟨u,hu⟩:=h3;hO.Ac j u hu,by rw[hO.Gb j h3,h4];exact h2⟩
 · obtain⟨x,_,rfl⟩:=adl.1 he;rfl
 · obtain⟨x,_,rfl⟩:=adl.1 he
   rw[acv.1 hc];rfl
 · rw[← hrise,List.map_map,acf,abz] at he
   obtain⟨i',hi',rfl⟩:=he;cases j with
   | zero=>
     cases hc;refine⟨E i',?_,alz hO (fun b hb=>(hF1 b hb).1) (hR2 i')⟩
     have:=hcells i i' hi';simpa using this
   |succ j=>cases hc
 · rw[hO.size];exact ac7 hB.size o2
 · rw[hO.other b abu,o1 b (ac1 hb hB.size) abu,hB.block b hb]
 · exact(Bh.trans ⟨hB.os,hB.tape,hB.output⟩ o3).trans hO.io
theorem V4:∃ c,Tryz.f89.body=some c:=acl.1 abv
theorem akr:DR Tryz.prog cfg 89 od:=by
 intro ds r hr F args w h1 h2 _ _;obtain⟨c,hb⟩:=V4;unfold od at hr;split at hr
 · cases hr
   obtain⟨v,rfl,hv⟩:=qt h1 h2;refine .inr ⟨BW Tryz.func89 abv hb _ w,?_⟩;have hv':∃ ad cap,v= .slice ad 0 cap:=by
     cases hv with
     |slA ad cap=>exact⟨_,_,rfl⟩
     | sl b o len cap z es vs hlen Ad hz hc hm hr=>
      simp at hlen;subst hlen;exact⟨_,_,rfl⟩
   obtain⟨ad,cap,rfl⟩:=hv';refine(abj ad cap w).mono fun e w' ⟨ad',c',he,hB⟩=> ?_
   subst he;exact⟨hB.size,hB.block,⟨hB.os,hB.tape,hB.output⟩,.slA _ _⟩
 · rename_i es Ai
   split at hr
   · rename_i hlen
     simp only[abz] at hr;obtain⟨l,hl,rfl⟩:=hr;obtain⟨v,rfl,hv⟩:=qt h1 h2;rw[rb hl] at hv hlen Ai;rw[aby] at hlen;refine .inr ⟨BW Tryz.func89 abv hb _ w,?_⟩;have hl0:l≠[]:=fun e=>Ai (by rw[e];rfl)
     refine(alw v l w hl0 hlen hv).mono fun e w' ⟨g,cap,he,g1,g2,g3,g4,g5,g6,g7,g8⟩=> ?_
     subst he;refine⟨g6,g7,g8,g,0,cap,by rw[aby],g1,g2,by rw[aby];exact g3,g4,?_⟩
     exact⟨g5.pos,g5.room,g5.wid,g5.cel,fun i e he j c hc=>let⟨v,k1,k2⟩:=g5.els i e he j c hc;⟨v,k1,k2.mono fun b o u hb hu=>⟨.inl hb,hu⟩⟩⟩
   · cases hr
 · cases hr
end Go.Proofs.YtkdiccgfbfbjlaaGreat
namespace Go.Proofs.YtkdiccgfbfbjlaaGreat
open Go Go.Ev Go.RowKit Go.WideMaps Go.Maps
theorem akb:Keyed Tryz.prog 9:=string_keyed Tryz.underlying9
theorem bbd (w:World):(zeroValue 4).run Tryz.prog w= .ok (.bool false) w:=abv
def Rw:List Tx→DataW Unit
 | []=> .map []
 |s::had=>(Rw had).put (.string s) (.lit (.bool true))
theorem ako:∀ had,IsMap (Rw had)
 | []=>⟨[],rfl⟩
 | s::had=>by
  obtain⟨es,he⟩:=ako had;rw[Rw,he];exact⟨_,rfl⟩
theorem Uq (x:Tx):∀ had:List Tx,(Rw had).atKey (.string x) (.lit (.bool false))= .lit (.bool (had.contains x))
 | []=>rfl
 | s::had=>by
  rw[Rw];by_cases e:x=s
  · subst e
    rw[atKey_put_same (ako had) (by simp[WideAt.IsKeyLit])]
    simp
  · rw[atKey_put_other (by intro h;exact e (by simpa using h)),Uq x had]
    have:(x==s)=false:=by simpa using e
    rw[List.contains_cons,this,Bool.false_or]
theorem um {P:Program} {e:TypeId} (he:P.underlying e=some .bool) {v:Value} {x:Bool} {ps:List MemPlace} (h:plainElem (H:=Unit) P e v=some (.lit (.bool x),ps)):v= .bool x:=by
 unfold plainElem at h;rw[he] at h;cases v<;>simp at h;rw[h.1]
set_option maxRecDepth 100000 in
theorem bbe (a:Option Addr) (c:Nat) (w:World):Calls Tryz.prog 145 #[.slice a 0 c] w fun e w'=>e= .returned (.bool true)∧Below w.heap.size w w':=by
 have hmm:= @run_makeMap Tryz.prog
 go_enter Tryz.func145,Tryz.ntmps145
 go_wp2
 refine wp_loop_rounds 1 ?_;rw[rounds_succ]
 go_wp2
 go_ret
 exact⟨rfl,(Below.refl _ _).alloc (ab5 _) _⟩
set_option maxHeartbeats 4000000 in
set_option maxRecDepth 100000 in
theorem bbf (b o c:Nat) (l:List Tx) (w:World) (hl:l.length≤1000000) (Ad:l.length≤c) (hb:b<w.heap.size) (hc:∀ (j:Nat) x,l[j]? =some x→w.cell? ⟨b,o+j,none⟩=some (.string ⟨x.toArray⟩)):
  Calls Tryz.prog 145 #[.slice (some ⟨b,o,none⟩) l.length c] w fun e w'=>e= .returned (.bool (c8 [] l))∧Below w.heap.size w w':=by
 have hmm:= @run_makeMap Tryz.prog;have HC:Aside (∀ (j:Nat) x,l[j]? =some x→w.cell? ⟨b,o+j,none⟩=some (.string ⟨x.toArray⟩)):=hc
 clear hc
 go_enter Tryz.func145,Tryz.ntmps145
 go_wp2
 go_loopw [9] (fun i wr=>∃ (k:Nat) (had:List Tx),k≤l.length∧i= .int .i64 k∧wr.ownsMap Tryz.prog 9 (plainElem Tryz.prog 4) w.heap.size k (Rw had)∧Below w.heap.size w wr∧c8 had (l.drop k)=c8 [] l)
  (fun i _=>l.length-(intOf i).toNat)
 case atStart=>exact⟨0,[],aco _,rfl,World.ownsMap_made _ _ _ _,(Below.refl _ _).alloc (ab5 _) _,rfl⟩
 case round=>
  obtain⟨k,had,hk,rfl,hown,hnx,hok⟩:=hrel;by_cases hlt:k<l.length
  · obtain⟨s,hs⟩:∃ s,l[k]? =some s:=⟨_,ab0 hlt⟩
    have hcx:wr.cell? ⟨b,o+k,none⟩=some (.string ⟨s.toArray⟩):=(hnx.cell (by exact hb)).trans (HC.out k s hs)
    have hdrop:l.drop k=s::l.drop (k+1):=by
      rw[adm hlt];rw[ab0 hlt] at hs;cases hs;rfl
    rw[hdrop,c8] at hok;have OK:Aside ((!(s.isEmpty||decide (100<s.length)||had.contains s)&&c8 (s::had) (l.drop (k+1)))=c8 [] l):=hok;clear hs hdrop hok;by_cases h1:s=[]
    · subst h1
      go_wp2
      go_ret
      refine⟨?_,hnx⟩;rw[← OK.out];rfl
    · have Ai:(⟨s.toArray⟩:ByteArray)≠⟨#[]⟩:=fun e=>h1 (by have:=congrArg (·.data.toList) e;simpa using this)
      by_cases h2:100<s.length
      · go_wp2
        go_ret
        refine⟨?_,hnx⟩;rw[← OK.out];have:decide (100<s.length)=true:=by simpa using h2
        rw[this];simp
      · have hkey:keyOf Tryz.prog 9 (.string ⟨s.toArray⟩)=some (.string s):=by
         have:=keyOf_string_mk (P:=Tryz.prog) (k:=9) Tryz.underlying9 (s:=⟨s.toArray⟩) (by unfold maxLen;simp[ByteArray.size];omega)
         simpa using this
        obtain⟨v,ps,AW,hv⟩:=hown.lookup akb Tryz.underlying237 (bbd wr) (plainElem_bool Tryz.underlying4 false) hkey;rw[Uq] at hv;obtain rfl:=um Tryz.underlying4 hv;have e1:s.isEmpty=false:=by simpa using h1
        have e2:decide (100<(s.length:Int))=false:=by simp;omega
        cases hcn:had.contains s with
        | true=>
         rw[hcn] at AW
         go_wp2
         go_ret
         refine⟨?_,hnx⟩;rw[← OK.out,hcn];simp
        | false=>
         rw[hcn] at AW
         go_wp2_with (first
          | (at_mapUpdate;refine wpList_mapUpdate_own _ rfl _ _ _ 237 rfl 9 4 akb Tryz.underlying237 _ w.heap.size k _ rfl hown (by unfold maxLen;omega) _ _ _ rfl rfl hkey _ [] (plainElem_bool Tryz.underlying4 true) ?_)
          |go_in)
         intro w1 hown1 hgrow1;have R2:=hnx.grown hgrow1 hnx.size (fun j hj=>by cases hj;exact ab5 _)
         have hok':c8 (s::had) (l.drop (k+1))=c8 [] l:=by
          rw[← OK.out,hcn];have e1:s.isEmpty=false:=by simpa using h1
          have e2:decide (100<s.length)=false:=by simpa using h2
          rw[e1,e2];rfl
         clear hgrow1 hown AW hcx hkey hnx
         go_wp2
         go_roundw
         case rel=>exact⟨k+1,s::had,by omega,by go_num,hown1,R2,hok'⟩
         case measure=>simp[intOf];omega
  · have:k=l.length:=abu
    subst this
    go_wp2
    go_ret
    rw[List.drop_length] at hok;exact⟨by rw[← hok];rfl,hnx⟩
end Go.Proofs.YtkdiccgfbfbjlaaGreat
namespace Go.Proofs.YtkdiccgfbfbjlaaGreat
open Go.Ev Go Go.RowKit
theorem mI (ad:Option Addr) (len cap:Nat) (w:World) (_:len≤cap):Calls Tryz.prog 49 #[.slice ad len cap] w fun e w'=>e= .returned (.slice ad len len)∧w'=w:=by
 go_enter Tryz.func49,Tryz.ntmps49
 go_wp2
 go_ret
 exact⟨rfl,rfl⟩
theorem ZJ:∃ c,Tryz.f49.body=some c:=acl.1 abv
theorem YP (ad:Option Addr) (len cap:Nat) (w:World) (_:len≤cap):Calls Tryz.prog 133 #[.slice ad len cap] w fun e w'=>e= .returned (.slice ad len len)∧w'=w:=by
 go_enter Tryz.func133,Tryz.ntmps133
 go_wp2
 go_ret
 exact⟨rfl,rfl⟩
theorem V5:∃ c,Tryz.f133.body=some c:=acl.1 abv
theorem YQ (ad:Option Addr) (len cap:Nat) (w:World) (_:len≤cap):Calls Tryz.prog 132 #[.slice ad len cap] w fun e w'=>e= .returned (.slice ad len len)∧w'=w:=by
 go_enter Tryz.func132,Tryz.ntmps132
 go_wp2
 go_ret
 exact⟨rfl,rfl⟩
theorem V6:∃ c,Tryz.f132.body=some c:=acl.1 abv
theorem mD (ad:Option Addr) (len cap:Nat) (w:World) (_:len≤cap):Calls Tryz.prog 84 #[.slice ad len cap] w fun e w'=>e= .returned (.slice ad len len)∧w'=w:=by
 go_enter Tryz.func84,Tryz.ntmps84
 go_wp2
 go_ret
 exact⟨rfl,rfl⟩
theorem ZG:∃ c,Tryz.f84.body=some c:=acl.1 abv
theorem mJ (ad:Option Addr) (len cap:Nat) (w:World) (_:len≤cap):Calls Tryz.prog 32 #[.slice ad len cap] w fun e w'=>e= .returned (.slice ad len len)∧w'=w:=by
 go_enter Tryz.func32,Tryz.ntmps32
 go_wp2
 go_ret
 exact⟨rfl,rfl⟩
theorem ZK:∃ c,Tryz.f32.body=some c:=acl.1 abv
theorem mG (ad:Option Addr) (len cap:Nat) (w:World) (_:len≤cap):Calls Tryz.prog 78 #[.slice ad len cap] w fun e w'=>e= .returned (.slice ad len len)∧w'=w:=by
 go_enter Tryz.func78,Tryz.ntmps78
 go_wp2
 go_ret
 exact⟨rfl,rfl⟩
theorem ZH:∃ c,Tryz.f78.body=some c:=acl.1 abv
theorem mH (ad:Option Addr) (len cap:Nat) (w:World) (_:len≤cap):Calls Tryz.prog 76 #[.slice ad len cap] w fun e w'=>e= .returned (.slice ad len len)∧w'=w:=by
 go_enter Tryz.func76,Tryz.ntmps76
 go_wp2
 go_ret
 exact⟨rfl,rfl⟩
theorem ZI:∃ c,Tryz.f76.body=some c:=acl.1 abv
variable [Sh]
theorem YO:boh Tryz.prog cfg:=fun f hf=>by
 have hf':VV.contains f=true:=hf;simp only[VV,List.contains_cons,List.contains_nil,Bool.or_false,acu,acg] at hf';rcases hf' with rfl|rfl|rfl|rfl|rfl|rfl|rfl
 · obtain⟨c,hc⟩:=ZJ
   exact bq Tryz.func49 abv hc mI
 · obtain⟨c,hc⟩:=V5
   exact bq Tryz.func133 abv hc YP
 · obtain⟨c,hc⟩:=V6
   exact bq Tryz.func132 abv hc YQ
 · obtain⟨c,hc⟩:=ZG
   exact bq Tryz.func84 abv hc mD
 · obtain⟨c,hc⟩:=ZK
   exact bq Tryz.func32 abv hc mJ
 · obtain⟨c,hc⟩:=ZH
   exact bq Tryz.func78 abv hc mG
 · obtain⟨c,hc⟩:=ZI
   exact bq Tryz.func76 abv hc mH
theorem follows:Tryz.prog.follows .mixedOrders=true:=abv
theorem bodyN:∃ c,Tryz.f145.body=some c:=acl.1 abv
theorem UF:DR Tryz.prog cfg Qx uu:=by
 obtain⟨c,hc⟩:=bodyN;exact aqe Tryz.func145 abv hc bbe fun b o c l w h1 h2 h3 h4=>bbf b o c l w h1 h2 h3 h4
theorem bbc:DR Tryz.prog cfg Qz kw:=zj Tryz.func165 abv abv abv abv
theorem yy:DR Tryz.prog cfg Q0 dg:=qk (ps:= #[3]) (t:=65) Tryz.func164 abv abv abv abv Tryz.underlying65
theorem HL (hS:Sh.on=true→DR Tryz.prog cfg Hl Dw):FU Tryz.prog cfg:=U6 fun f g hf=>by
 have hf':exts f=some g:=hf;unfold exts at hf';split at hf'
 · rename_i e;cases hf';rw[e];exact UF
 split at hf'
 · rename_i e;cases hf';rw[e];exact UD
 split at hf'
 · rename_i e;cases hf';rw[e];exact akr
 split at hf'
 · rename_i e;cases hf';rw[e];exact bbc
 split at hf'
 · rename_i e;cases hf';rw[e];exact yy
 split at hf'
 · rename_i e;cases hf';rw[e];exact UG
 split at hf'
 · rename_i e;cases hf';rw[e];exact Xc
 split at hf'
 · rename_i e
   split at hf'
   · rename_i h;cases hf';rw[e];exact hS h
   · cases hf'
 cases hf'
theorem Xp:Wd Tryz.prog cfg:=fun f g hg=>by
 have hg':Uh f=some g:=hg;unfold Uh at hg';split at hg'
 · rename_i e;cases hg';rw[e];exact ww VM VY
 split at hg'
 · rename_i e;cases hg';rw[e];exact ww VL VX
 cases hg'
theorem Vb:CM Tryz.prog cfg where
 Gk:=fun t h=>by cases h
 GH:=fun t n f h=>by cases h
 clip:=YO
 iter:=Xp
theorem a9r:ud Tryz.prog cfg:=fun f fn hf=>by
 have hf':U2 Tryz.prog tbl tab f=some fn:=hf;unfold U2 at hf';split at hf'
 · rename_i fn' h
   cases hf';exact bX (f,fn) (blm h)
 · exact bak bY hf'
