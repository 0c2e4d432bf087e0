import Derived.Test.YtkdiccgfbfbjlaaGreatL10
import Derived.Test.YtkdiccgfbfbjlaaGreatProg
import Derived.RangeFuncBox
import Derived.RangeFuncLeaves
import Derived.WalkKit
import Derived.OwnWalkIn
import Derived.TacticsInMore
import Derived.LoopNIn
import Derived.LoopIn
import Derived.KernelRfl
import Derived.Deep.LoopGhost
import Derived.Laws.MakeOwn
import Derived.Deep.RegionHeld3
import Derived.Test.YtkdiccgfbfbjlaaGreatOrc
import Derived.Test.YtkdiccgfbfbjlaaGreatL4
import Derived.Test.YtkdiccgfbfbjlaaGreatL2
import Derived.Test.YtkdiccgfbfbjlaaGreatCode
set_option linter.unusedSectionVars false
namespace Go.Proofs.YtkdiccgfbfbjlaaGreat
open Go Go.Ev Go.RowKit
attribute [local go_sem] Oper.semAt_some
set_option maxRecDepth 100000
theorem made (w:World):∃ cs:Array Value,(Instr.makeSlice 48 (.int .i64 4096) (.int .i64 4096)).run Tryz.prog w= .ok (.slice (some ⟨w.heap.size,0,none⟩) 4096 4096) (w.alloc (.cells cs 3))∧cs.size=4096:=by
 obtain⟨i0,hi,hz0,hz1,hz2⟩:=info_parts (P:=Tryz.prog) (e:=3) (z:= .int .i64 0) (size:=1) (bytes:=8) abv;have:=run_make (P:=Tryz.prog) (w:=w) 48 3 i0 (.int .i64 0) Tryz.underlying48 hi hz0 .i64 .i64 4096 4096 abu abu (by rw[hz2];omega) abu
 exact⟨_,this,by rw[hz1];simp[madeCells,Value.cells]⟩
def ET (w:World) (i:Nat) (wr:World):Prop:=∃ cs:Array Value,wr.heap[w.heap.size]? =some (.cells cs 3)∧cs.size=4096∧(∀ j,j<i→cs[j]? =some (.int .i64 (-1)))∧(∀ c,c<w.heap.size→wr.heap[c]? =w.heap[c]?)∧wr.os=w.os∧wr.tape=w.tape∧wr.output=w.output
theorem ET.step {w wr:World} {i:Nat} (h:ET w i wr) (hi:i<4096):(∃ v,wr.cell? ⟨w.heap.size,i,none⟩=some v)∧ET w (i+1) (wr.setCell ⟨w.heap.size,i,none⟩ (.int .i64 (-1))):=by
 obtain⟨cs,h1,h2,h3,h4,h5⟩:=h;refine⟨⟨cs[i]'(by omega),by simp[World.cell?,h1,h2,hi]⟩,cs.setIfInBounds i (.int .i64 (-1)),?_,by simp[h2],fun j hj=> ?_,fun c hc=> ?_,h5⟩
 · simp[World.setCell,Array.getElem?_modify,h1]
 · by_cases e:j=i
   · subst e;simp[h2,hi]
   · rw[Array.getElem?_setIfInBounds_ne (Ne.symm e)];exact h3 j abu
 · rw[← h4 c hc]
   simp[World.setCell,Array.getElem?_modify,show ¬ w.heap.size=c by omega]
theorem aa2 (w:World):Calls Tryz.prog 147 #[] w fun e w'=>∃ (cs:Array Value) (t:TypeId),e= .returned (.slice (some ⟨w.heap.size,0,none⟩) 4096 4096)∧w'.heap[w.heap.size]? =some (.cells cs t)∧cs.size=4096∧(∀ i,i<4096→cs[i]? =some (.int .i64 (-1)))∧(∀ c,c<w.heap.size→w'.heap[c]? =w.heap[c]?)∧w'.os=w.os∧w'.tape=w.tape∧w'.output=w.output:=by
 obtain⟨cs0,hmk,hcs0⟩:=made w;have h0:ET w 0 (w.alloc (.cells cs0 3)):=⟨cs0,World.alloc_heap_new w _,hcs0,fun j hj=>by omega,fun c hc=>Below.heap_alloc _ _ _ hc,rfl,rfl,rfl⟩
 have H0:Aside (ET w 0 (w.alloc (.cells cs0 3))):=h0;clear h0;generalize hW:w.alloc (.cells cs0 3)=W0 at*
 go_enter Tryz.func147,Tryz.ntmps147
 go_wp2
 go_loopg [6] 4096 (fun g s6 wr=>∃ k:Nat,k≤4096∧4096-k≤g∧s6= .int .i64 k∧ET w k wr)
 case atStart=>exact⟨0,by omega,by omega,rfl,H0⟩
 case round=>
  obtain⟨k,hk,hg,rfl,hF⟩:=hrel;by_cases hlt:k<4096
  · obtain⟨⟨v,hv⟩,hn⟩:=hF.step hlt
    have hfz:wr.frozen? ⟨w.heap.size,k,none⟩=false:=by obtain⟨cs,h1,_⟩:=hF;exact frozen_of_row wr _ _ cs 3 h1
    have HN:Aside (ET w (k+1) (wr.setCell ⟨w.heap.size,k,none⟩ (.int .i64 (-1)))):=hn;clear hn hF
    go_wp2
    go_roundg (4096-(k+1))
    case measure=>omega
    case rel=>exact⟨k+1,by omega,by omega,by go_num,HN⟩
  · obtain rfl:k=4096:=abu
    have HN:Aside (ET w 4096 wr):=hF;clear hF
    go_wp2
    go_ret
    obtain⟨cs,h1,h2,h3,h4,h5⟩:=HN;exact⟨cs,3,rfl,h1,h2,h3,h4,h5⟩
theorem VM (args:Array Value) (w:World):(callFunc 117 args).run Tryz.prog w= .ok (.enter 117 args) w:=by
 obtain⟨c,hc⟩:∃ c,Tryz.f117.body=some c:=acl.1 abv
 exact BW Tryz.func117 abv hc args w
theorem VL (args:Array Value) (w:World):(callFunc 155 args).run Tryz.prog w= .ok (.enter 155 args) w:=by
 obtain⟨c,hc⟩:∃ c,Tryz.f155.body=some c:=acl.1 abv
 exact BW Tryz.func155 abv hc args w
end Go.Proofs.YtkdiccgfbfbjlaaGreat
namespace Go.Proofs.YtkdiccgfbfbjlaaGreat
open Go Go.Ev Go.RowKit
attribute [local go_sem] Oper.semAt_some
set_option maxRecDepth 100000
def ue (P:Program) (f:FuncId) (z:Nat):Prop:=∀ (l B o B' o' n m:Nat) (J:Nat→World→Prop) (Jx:World→Prop) (W:World),0<m→n+m<4611686018427387904→(∀ i X Y,J i X→X.grownBy Y none→J i Y)→(∀ X Y,Jx X→X.grownBy Y none→Jx Y)→
 (∀ i X,i≤(n+m-1) / m→J i X→∃ ad cap,X.cell? ⟨B,o,none⟩=some (.slice ad n cap)∧n≤cap∧X.cell? ⟨B',o',none⟩=some (.int .i64 (m:Int))∧(i*m<n→∃ c p,ad=some ⟨c,p,none⟩∧
  YieldAt Fence.wide 0 P l #[.slice (some ⟨c,p+i*m*z,none⟩) (min m (n-i*m)) (min m (n-i*m))] X fun e Y=>(e= .returned (.bool true)∧J (i+1) Y)∨(e= .returned (.bool false)∧Jx Y)))→
 J 0 W→CallsIn Fence.wide 0 P f #[.func (.yield l) #[] #[],.pointer (some ⟨B,o,none⟩),.pointer (some ⟨B',o',none⟩)] W fun e Y=>(∃ v,e= .returned v)∧(J ((n+m-1) / m) Y∨Jx Y)
theorem ake {i n m:Nat} (hm:0<m):i<(n+m-1) / m↔i*m<n:=by
 rw[show i<(n+m-1) / m↔i+1≤(n+m-1) / m from Iff.rfl,Nat.le_div_iff_mul_le hm,Nat.succ_mul]
 omega
set_option maxHeartbeats 2000000 in
theorem VY:ue Tryz.prog 117 1:=by
 intro l B o B' o' n m J Jx W hm hnm hJ hJx hR h0;have hlt:∀ {k:Nat},k<(n+m-1) / m↔k*m<n:=fun {k}=>ake hm
 generalize(n+m-1) / m=len at *;refine callsIn_of_wp Tryz.func117 rfl trivial ?_ rfl;simp only[Tryz.ntmps117,List.size_toArray,List.length_cons,List.length_nil,Nat.reduceAdd,Nat.reduceSub,Array.replicate_succ,Array.replicate_zero,List.push_toArray,List.append_toArray,List.nil_append,List.cons_append]
 gi_wp2
 gi_loopw [4] (fun i wr=>∃ k:Nat,k≤len∧i= .int .i64 ((k*m:Nat):Int)∧J k wr) (fun i _=>n+m-(intOf i).toNat)
 case atStart=>exact⟨0,aco _,by simp,h0⟩
 case round=>
  obtain⟨k,hk,rfl,hJk⟩:=hrel;obtain⟨ad,cap,c1',Ad,c2',hy⟩:=hR k wr.drew hk (hJ k wr wr.drew hJk ⟨rfl,rfl,rfl,ab5 _,fun _ _ _=>rfl⟩)
  have c1:wr.cell? ⟨B,o,none⟩=some (.slice ad n cap):=c1';have c2:wr.cell? ⟨B',o',none⟩=some (.int .i64 (m:Int)):=c2';obtain⟨i0,hi0⟩:∃ i0,i0=k*m:=⟨_,rfl⟩
  rw[← hi0] at hy ⊢;have A0:Aside (i0=k*m):=hi0;by_cases hkm:i0<n
  · obtain⟨c,p,rfl,fn,tmps,assign,body,hyr,hRd⟩:=hy hkm
    obtain⟨e0,he0⟩:∃ e0,e0=min m (n-i0):=⟨_,rfl⟩
    have hE:(if n-i0<m then((n-i0:Nat):Int) else(m:Int))=(e0:Int):=by split<;>omega
    rw[← he0,Nat.mul_one] at hyr;have HR:Aside (RoundIn Fence.wide 0 Tryz.prog l fn tmps assign body wr.drew fun e Y=>e= .returned (.bool true)∧J (k+1) Y∨e= .returned (.bool false)∧Jx Y):=hRd
    have hle:k<len:=hlt.2 abu;have b1:i0+e0≤n:=abu;have b2:0<e0:=abu;have b3:e0≤m:=abu;have HA:Aside (∀ X,J (k+1) X→X.cell? ⟨B',o',none⟩=some (.int .i64 (m:Int))):=fun X hX=>(hR (k+1) X hle hX).choose_spec.choose_spec.2.2.1
    have z1:(0:Int)≤(i0:Int):=abu;have z2:(i0:Int)≤(n:Int):=abu;have z3:¬ cap=i0:=abu;have z4:i0≤n:=abu;clear hRd hy hR hJ hJx c1' c2' hlt hi0
    gi_wp2
    refine wpIn_wide.2 ?_
    go_region_held3 (fun w'=>w'.cell? ⟨B,o,none⟩=some (.slice (some ⟨c,p,none⟩) n cap)∧w'.cell? ⟨B',o',none⟩=some (.int .i64 (m:Int))) (go_keep) (fail)
    all_goals (try(exfalso;omega))
    rw[← he0];clear hE he0
    gi_wp2
    refine⟨rfl,HR.out.mono ?_⟩;clear hyr HR c1 c2
    rintro e W3 (⟨rfl,hJ3⟩|⟨rfl,hJx3⟩)
    · have c3:=HA.out W3 hJ3
      clear HA
      gi_wp2
      go_roundw
      case rel=>exact⟨k+1,hle,by rw[Nat.succ_mul,← A0.out];go_num,hJ3⟩
      case measure=>simp[intOf];omega
    · gi_wp2
      refine bodyPost_ret (results_none rfl _ _ _) rfl ?_;exact⟨⟨_,rfl⟩,.inr hJx3⟩
  · obtain rfl:k=len:=by
      apply Classical.byContradiction;intro Ai;exact hkm (by rw[hi0];exact hlt.1 abu)
    clear hy hR hJ hJx c1' c2' hlt hi0
    gi_wp2
    go_end0
    exact⟨⟨_,rfl⟩,.inl hJk⟩
set_option maxHeartbeats 2000000 in
theorem VX:ue Tryz.prog 155 1:=by
 intro l B o B' o' n m J Jx W hm hnm hJ hJx hR h0;have hlt:∀ {k:Nat},k<(n+m-1) / m↔k*m<n:=fun {k}=>ake hm
 generalize(n+m-1) / m=len at *;refine callsIn_of_wp Tryz.func155 rfl trivial ?_ rfl;simp only[Tryz.ntmps155,List.size_toArray,List.length_cons,List.length_nil,Nat.reduceAdd,Nat.reduceSub,Array.replicate_succ,Array.replicate_zero,List.push_toArray,List.append_toArray,List.nil_append,List.cons_append]
 gi_wp2
 gi_loopw [4] (fun i wr=>∃ k:Nat,k≤len∧i= .int .i64 ((k*m:Nat):Int)∧J k wr) (fun i _=>n+m-(intOf i).toNat)
 case atStart=>exact⟨0,aco _,by simp,h0⟩
 case round=>
  obtain⟨k,hk,rfl,hJk⟩:=hrel;obtain⟨ad,cap,c1',Ad,c2',hy⟩:=hR k wr.drew hk (hJ k wr wr.drew hJk ⟨rfl,rfl,rfl,ab5 _,fun _ _ _=>rfl⟩)
  have c1:wr.cell? ⟨B,o,none⟩=some (.slice ad n cap):=c1';have c2:wr.cell? ⟨B',o',none⟩=some (.int .i64 (m:Int)):=c2';obtain⟨i0,hi0⟩:∃ i0,i0=k*m:=⟨_,rfl⟩
  rw[← hi0] at hy ⊢;have A0:Aside (i0=k*m):=hi0;by_cases hkm:i0<n
  · obtain⟨c,p,rfl,fn,tmps,assign,body,hyr,hRd⟩:=hy hkm
    obtain⟨e0,he0⟩:∃ e0,e0=min m (n-i0):=⟨_,rfl⟩
    have hE:(if n-i0<m then((n-i0:Nat):Int) else(m:Int))=(e0:Int):=by split<;>omega
    rw[← he0,Nat.mul_one] at hyr;have HR:Aside (RoundIn Fence.wide 0 Tryz.prog l fn tmps assign body wr.drew fun e Y=>e= .returned (.bool true)∧J (k+1) Y∨e= .returned (.bool false)∧Jx Y):=hRd
    have hle:k<len:=hlt.2 abu;have b1:i0+e0≤n:=abu;have b2:0<e0:=abu;have b3:e0≤m:=abu;have HA:Aside (∀ X,J (k+1) X→X.cell? ⟨B',o',none⟩=some (.int .i64 (m:Int))):=fun X hX=>(hR (k+1) X hle hX).choose_spec.choose_spec.2.2.1
    have z1:(0:Int)≤(i0:Int):=abu;have z2:(i0:Int)≤(n:Int):=abu;have z3:¬ cap=i0:=abu;have z4:i0≤n:=abu;clear hRd hy hR hJ hJx c1' c2' hlt hi0
    gi_wp2
    refine wpIn_wide.2 ?_
    go_region_held3 (fun w'=>w'.cell? ⟨B,o,none⟩=some (.slice (some ⟨c,p,none⟩) n cap)∧w'.cell? ⟨B',o',none⟩=some (.int .i64 (m:Int))) (go_keep) (fail)
    all_goals (try(exfalso;omega))
    rw[← he0];clear hE he0
    gi_wp2
    refine⟨rfl,HR.out.mono ?_⟩;clear hyr HR c1 c2
    rintro e W3 (⟨rfl,hJ3⟩|⟨rfl,hJx3⟩)
    · have c3:=HA.out W3 hJ3
      clear HA
      gi_wp2
      go_roundw
      case rel=>exact⟨k+1,hle,by rw[Nat.succ_mul,← A0.out];go_num,hJ3⟩
      case measure=>simp[intOf];omega
    · gi_wp2
      refine bodyPost_ret (results_none rfl _ _ _) rfl ?_;exact⟨⟨_,rfl⟩,.inr hJx3⟩
  · obtain rfl:k=len:=by
      apply Classical.byContradiction;intro Ai;exact hkm (by rw[hi0];exact hlt.1 abu)
    clear hy hR hJ hJx c1' c2' hlt hi0
    gi_wp2
    go_end0
    exact⟨⟨_,rfl⟩,.inl hJk⟩
end Go.Proofs.YtkdiccgfbfbjlaaGreat
namespace Go.Proofs.YtkdiccgfbfbjlaaGreat
open Go Go.Ev Go.RowKit
theorem y9 {i n m:Nat} (hm:0<m):i<(n+m-1) / m↔i*m<n:=by
 rw[show i<(n+m-1) / m↔i+1≤(n+m-1) / m from Iff.rfl,Nat.le_div_iff_mul_le hm,Nat.succ_mul]
 omega
theorem pg (m:Nat) (hm:0<m):∀ (k:Nat) (es:List D),es.length≤k→∀ i,(cw k m es)[i]? =if i*m<es.length then some [.sl ((es.drop (i*m)).take m)] else none
 |0,[],h,i=>by simp[cw]
 |0,x::r,h,i=>by simp at h
 |k+1,[],h,i=>by simp[cw]
 |k+1,x::r,h,0=>by simp[cw]
 | k+1,x::r,h,i+1=>by
  rw[cw,List.getElem?_cons_succ,pg m hm k _ (by rw[ado];simp at h ⊢;omega),ado,List.drop_drop,Nat.succ_mul,show m+i*m=i*m+m by omega]
  generalize i*m=q;by_cases c:q+m<(x::r).length
  · rw[if_pos c,if_pos abu]
  · rw[if_neg c,if_neg abu]
theorem aq6 (m:Nat) (hm:0<m) (es:List D):(cw es.length m es).length=(es.length+m-1) / m:=by
 have h:∀ i,i<(cw es.length m es).length↔i<(es.length+m-1) / m:=fun i=>by
  rw[y9 hm];have:=pg m hm es.length es (ab5 _) i;constructor
  · intro hi
    rw[ab0 hi] at this;apply Classical.byContradiction;intro c;rw[if_neg c] at this;cases this
  · intro hi
    rw[if_pos hi] at this;exact(ab1.1 this).1
 have h1:=h (cw es.length m es).length;have h2:=h ((es.length+m-1) / m);omega
theorem bm9 {e:D} (h:e.AP=true):e.cells=[e]:=by cases e<;>first|rfl|cases h
theorem ww {P:Program} {f:FuncId} (hent:∀ args w,(callFunc f args).run P w= .ok (.enter f args) w) (hw:ue P f 1):
   (∀ args w,(callFunc f args).run P w= .ok (.enter f args) w)∧∀ ds its,jj ds=some its→∀ (F:Nat→Prop) (lb:Array Value) (w:World),lb.size=ds.length→
   (∀ (i:Nat) v d,lb[i]? =some v→ds[i]? =some d→Rd F w v d)→∃ xs:List (Array Value),xs.length=its.length∧
     (∀ (i:Nat) x it,xs[i]? =some x→its[i]? =some it→x.size=it.length∧∀ (j:Nat) v d,x[j]? =some v→it[j]? =some d→Rd F w v d)∧Ev.Qn P f lb xs (F8 F w) w:=by
 refine⟨hent,fun ds its hg F lb w hsz B7=> ?_⟩
 unfold jj at hg;split at hg
 case h_2=>cases hg
 rename_i es n0;split at hg
 case isFalse=>cases hg
 rename_i hc;cases hg;obtain⟨hn1,hn2,hall,hlen⟩:=hc;obtain⟨m,rfl⟩:∃ m:Nat,n0=(m:Int):=⟨n0.toNat,by omega⟩
 have hm:0<m:=abu;rw[show((m:Int)).toNat=m by omega]
 obtain⟨lb⟩:=lb
 match lb,hsz with
 | [v,u],_=>
 have hv:=B7 0 v _ rfl rfl;have hu:=B7 1 u _ rfl rfl;cases hv with|ptr B o _ vp hc1 hm1 h1=>
 cases hu with|ptr B' o' _ up hc2 hm2 h2=>
 obtain⟨hF1,hcell1⟩:=hm1 0 _ rfl;obtain⟨hF2,hcell2⟩:=hm2 0 _ rfl;have hs:=h1 0 _ rfl;have hi:=(h2 0 _ rfl).Ar;generalize vp 0=sv at *;generalize up 0=iv at *;subst hi;have Ac:∀ X,F8 F w w X→∀ b o u,F b→w.cell? (ad3 b o)=some u→X.cell? (ad3 b o)=some u:=fun X hX b o u hb hu=>by
   rw[Ap (hX b hb (by simpa using World.block_lt_of_cell? _ _ hu))];exact hu
 have start:∀ W,Below w.heap.size w W→F8 F w w W:=fun W hW b hb hlt=>hW.block b hlt
 have stay:∀ X Y,F8 F w w X→X.grownBy Y none→F8 F w w Y:=fun X Y h1 h2 b hb hlt=>by
   have e:=h1 b hb hlt;have hx:b<X.heap.size:=by
     apply Classical.byContradiction;intro c;rw[acm hlt,Array.getElem?_eq_none abu] at e;cases e
   exact(h2.block b hx abw).trans e
 have trans:∀ X Y,F8 F w w X→F8 F w X Y→F8 F w w Y:=fun X Y h1 h2 b hb hlt=>(h2 b hb hlt).trans (h1 b hb hlt)
 have hone:∀ e∈es,e.cells.length=1:=fun e he=>by rw[bm9 (adn.1 hall e he)];rfl
 have htell:∀ (ad:Option Addr) (cap:Nat) (xs:List (Array Value)),xs.length=(es.length+m-1) / m→sv= .slice ad es.length cap→es.length≤cap→
     (∀ i,i*m<es.length→∃ c p,ad=some ⟨c,p,none⟩∧xs[i]? =some #[.slice (some ⟨c,p+i*m*1,none⟩) (min m (es.length-i*m)) (min m (es.length-i*m))])→
     Ev.Qn P f ⟨[Value.pointer (some (ad3 B o)),.pointer (some (ad3 B' o'))]⟩ xs (F8 F w) w:=by
   intro ad cap xs hxs hsv Ad hat l J Jx W hW hJ1 hJ2 hY h0;have hb:es.length+m<4611686018427387904:=abu;have:=hw l B o B' o' es.length m (fun i X=>J i X∧F8 F w w X) Jx W hm hb (fun i X Y ⟨a,b⟩ h=>⟨hJ1 i X Y a h,stay X Y b h⟩) hJ2 (fun i X hi ⟨hJ,hX⟩=> ?_) ⟨h0,start W hW⟩
   · refine this.mono fun e Y ⟨a,b⟩=>⟨a,?_⟩
     rw[hxs];exact b.imp (fun h=>h.1) id
   · refine⟨ad,cap,by rw[← hsv];exact Ac X hX B o _ hF1 hcell1,Ad,Ac X hX B' o' _ hF2 hcell2,fun hlt=> ?_⟩
     obtain⟨c,p,e1,e2⟩:=hat i hlt;refine⟨c,p,e1,?_⟩;obtain⟨fn,tmps,asg,body,hy,hR⟩:=hY i _ X e2 hJ;refine⟨fn,tmps,asg,body,hy,hR.mono ?_⟩
     rintro e Y (⟨h1,h2,h3⟩|⟨h1,h2⟩)
     · exact .inl ⟨h1,h2,trans X Y hX h3⟩
     · exact .inr ⟨h1,h2⟩
 rcases hs.Gj (z:=1) (fun e he=>hone e (by cases es with|nil=>cases he|cons x r=>cases he;simp)) with⟨ad,cap,rfl,rfl⟩|⟨b,p,cap,rfl,Ad,_,hpt⟩
 · refine⟨[],rfl,by simp,htell ad cap [] ?_ rfl (aco _) fun i hi=>by simp at hi⟩
   rw[List.length_nil,List.length_nil,Nat.zero_add,Nat.div_eq_of_lt abu]
 · refine⟨(List.range ((es.length+m-1) / m)).map fun(i:Nat)=> #[Value.slice (some (ad3 b (p+i*m*1))) (min m (es.length-i*m)) (min m (es.length-i*m))],by rw[aq6 m hm];simp,?_,?_⟩
   · intro i x it hx hit
     have hi:i<(es.length+m-1) / m:=by
       have:=(ab1.1 hx).1;simpa using this
     rw[acf,List.getElem?_range hi,Option.map_some] at hx;cases hx;have hlt:=(y9 hm).1 hi;rw[pg m hm _ es (ab5 _),if_pos hlt] at hit;cases hit;refine⟨rfl,fun j v d hj hd=> ?_⟩
     match j,hj,hd with
     | 0,hj,hd=>
       cases hj;cases hd;have e:((es.drop (i*m)).take m).length=min m (es.length-i*m):=by simp
       rw[← e];refine Rd.Hf (z:=1) (ab5 _) (fun e he=>hone e (adc (ade he))) fun k e he=> ?_
       rw[List.getElem?_take] at he;split at he
       · rw[List.getElem?_drop] at he
         have:=hpt _ e he;rw[show p+i*m*1+k*1=p+(i*m+k)*1 by omega]
         exact this
       · cases he
     |j+1,hj,hd=>cases hd
   · refine htell (some (ad3 b p)) cap _ abw rfl Ad fun i hi=>⟨b,p,rfl,?_⟩
     rw[acf,List.getElem?_range ((y9 hm).2 hi),Option.map_some]
end Go.Proofs.YtkdiccgfbfbjlaaGreat
namespace Go.Proofs.YtkdiccgfbfbjlaaGreat
open Go Go.RowKit
variable [Sh]
set_option linter.unusedSectionVars false
theorem UD:Ev.DR Tryz.prog cfg Qw SZ:=by
 obtain⟨c,hc⟩:∃ c,Tryz.f147.body=some c:=Option.isSome_iff_exists.1 (by kernel_rfl)
 intro ds r hr F args w h1 h2 _ _;unfold SZ at hr;split at hr
 case h_2=>cases hr
 cases hr;obtain rfl:args= #[]:=by cases args;simp_all
 refine .inr ⟨Ev.BW Tryz.func147 (by kernel_rfl) hc _ w,(aa2 w).mono ?_⟩
 rintro e W ⟨cs,t,rfl,hg,hsz,hcs,hold,ho1,ho2,ho3⟩
 have hlt:w.heap.size<W.heap.size:=by
   apply Classical.byContradiction;intro c;rw[Array.getElem?_eq_none (by omega)] at hg
   cases hg
 have cellAt:∀ j,j<4096→W.cell? (Ev.ad3 w.heap.size (0+j))=some (.int .i64 (-1)):=fun j hj=>by
   rw[Nat.zero_add];show W.cell? ⟨w.heap.size,j,none⟩=_;rw[cell_of_row W w.heap.size j cs t (0,0) hg];exact hcs j hj
 have hl:(List.replicate 4096 (Ev.D.int .i64 (-1))).length=4096:=List.length_replicate;have hm:∀ e∈List.replicate 4096 (Ev.D.int .i64 (-1)),e= .int .i64 (-1):=fun e he=>(List.mem_replicate.1 he).2
 refine⟨by omega,hold,⟨ho1,ho2,ho3⟩,w.heap.size,0,4096,by rw[hl],Nat.le_refl _,hlt,by rw[hl];exact Nat.le_refl _,fun c e' lo hi hc' Ai=> ?_,?_⟩
 · rw[hg] at hc'
   cases hc';exact absurd rfl Ai
 refine⟨by decide,fun j hj=>⟨⟨_,cellAt j (by omega)⟩,?_⟩,fun e he=> ?_,fun e he c hc=> ?_,fun i e he j c hc=> ?_⟩
 · rw[Nat.zero_add]
   exact frozen_of_row W w.heap.size j cs t hg
 · rw[hm e he];rfl
 · rw[hm e he] at hc
   obtain rfl:=List.mem_singleton.1 (show c∈[Ev.D.int .i64 (-1)] from hc)
   rfl
 · have hi:i<4096:=by rw[← hl];exact(List.getElem?_eq_some_iff.1 he).1
   rw[hm e (List.mem_of_getElem? he)] at hc;have hj:j=0:=by
    have:j<[Ev.D.int .i64 (-1)].length:=(List.getElem?_eq_some_iff.1 hc).1;simpa using this
   subst hj;cases hc;exact⟨_,by rw[show 0+i*1+0=0+i by omega];exact cellAt i hi,.int _ _⟩
theorem FN {F:Nat→Prop} {w:World} {args:Array Value} {d e:Ev.D} (h1:args.size=[d,e].length) (h2:∀ (i:Nat) v d',args[i]? =some v→[d,e][i]? =some d'→Ev.Rd F w v d'):∃ v u,args= #[v,u]∧Ev.Rd F w v d∧Ev.Rd F w u e:=by
 obtain⟨l⟩:=args
 match l,h1 with
 | [v,u],_=>exact⟨v,u,rfl,h2 0 v d rfl rfl,h2 1 u e rfl rfl⟩
theorem eO (a:Option Addr) (len cap:Nat) (n:Int) (hn:1≤n) (w:World):Calls Tryz.prog 83 #[.slice a len cap,.int .i64 n] w fun e w'=>∃ t1 t2,e= .returned (.func (.func 117) #[] #[.pointer (some ⟨w.heap.size,0,none⟩),.pointer (some ⟨w.heap.size+1,0,none⟩)])∧w'=(w.alloc (.cells #[.slice a len cap] t1)).alloc (.cells #[.int .i64 n] t2):=by
 have a0:¬ n<1:=by omega
 go_enter Tryz.func83,Tryz.ntmps83
 go_wp2
 go_ret
 exact⟨rfl,_,_,rfl⟩
theorem Xk (a:Option Addr) (len cap:Nat) (n:Int) (hn:1≤n) (w:World):Calls Tryz.prog 120 #[.slice a len cap,.int .i64 n] w fun e w'=>∃ t1 t2,e= .returned (.func (.func 155) #[] #[.pointer (some ⟨w.heap.size,0,none⟩),.pointer (some ⟨w.heap.size+1,0,none⟩)])∧w'=(w.alloc (.cells #[.slice a len cap] t1)).alloc (.cells #[.int .i64 n] t2):=by
 have a0:¬ n<1:=by omega
 go_enter Tryz.func120,Tryz.ntmps120
 go_wp2
 go_ret
 exact⟨rfl,_,_,rfl⟩
theorem UE {f f1:FuncId} (hent:∀ args w,(callFunc f args).run Tryz.prog w= .ok (.enter f args) w)
  (hm:∀ (a:Option Addr) (len cap:Nat) (n:Int) (_:1≤n) (w:World),Calls Tryz.prog f #[.slice a len cap,.int .i64 n] w fun e w'=>∃ t1 t2,e= .returned (.func (.func f1) #[] #[.pointer (some ⟨w.heap.size,0,none⟩),.pointer (some ⟨w.heap.size+1,0,none⟩)])∧w'=(w.alloc (.cells #[.slice a len cap] t1)).alloc (.cells #[.int .i64 n] t2)):
  Ev.DR Tryz.prog cfg f (Ev.Ej f1):=by
 intro ds r hr F args w h1 h2 _ _;unfold Ev.Ej at hr;split at hr
 case h_2=>cases hr
 rename_i es n;split at hr
 case isFalse=>cases hr
 rename_i hn;cases hr;obtain⟨v,u,rfl,hv,hu⟩:=FN h1 h2;cases hu.Ar;have hs:∃ a len cap,v= .slice a len cap:=by cases hv<;>exact⟨_,_,_,rfl⟩
 obtain⟨a,len,cap,rfl⟩:=hs;refine .inr ⟨hent _ w,(hm a len cap n hn w).mono fun e w' ⟨t1,t2,e1,e2⟩=> ?_⟩
 subst e1;subst e2;have hB:Below w.heap.size w ((w.alloc (.cells #[.slice a len cap] t1)).alloc (.cells #[.int .i64 n] t2)):=((Below.refl _ _).alloc (Nat.le_refl _) _).alloc (by simp) _
 have c1:((w.alloc (.cells #[.slice a len cap] t1)).alloc (.cells #[.int .i64 n] t2)).cell? (Ev.ad3 w.heap.size 0)=some (.slice a len cap):=by
  have h0:(w.alloc (.cells #[.slice a len cap] t1)).cell? ⟨w.heap.size,0,none⟩=some (.slice a len cap):=by
    rw[World.cell?_alloc_new];rfl
  exact(World.grownBy_alloc _ _ none).cell h0 (by simp)
 have c2:((w.alloc (.cells #[.slice a len cap] t1)).alloc (.cells #[.int .i64 n] t2)).cell? (Ev.ad3 (w.heap.size+1) 0)=some (.int .i64 n):=by
  have e:w.heap.size+1=(w.alloc (.cells #[.slice a len cap] t1)).heap.size:=by simp
  rw[show Ev.ad3 (w.heap.size+1) 0=⟨w.heap.size+1,0,none⟩ from rfl,e,World.cell?_alloc_new]
  rfl
 refine⟨hB.size,fun b hb=>hB.block b hb,⟨hB.os,hB.tape,hB.output⟩,[.pointer (some ⟨w.heap.size,0,none⟩),.pointer (some ⟨w.heap.size+1,0,none⟩)],[.ptr (.sl es),.ptr (.int .i64 n)],rfl,rfl,rfl,fun i u e h3 h4=> ?_⟩
 match i,h3,h4 with
 | 0,h3,h4=>
  cases h3;cases h4;refine .ptr w.heap.size 0 (.sl es) (fun _=> .slice a len cap) (by simp[Ev.D.cells,Ev.D.AP]) (fun j c hj=> ?_) (fun j c hj=> ?_)
  · match j,hj with
    |0,hj=>exact⟨.inr (Nat.le_refl _),c1⟩
  · match j,hj with
    | 0,hj=>
     cases hj;exact hv.mono fun b o u hb hu=>⟨.inl hb,by rw[Ev.Ap (hB.block b (by simpa using World.block_lt_of_cell? _ _ hu))];exact hu⟩
 | 1,h3,h4=>
  cases h3;cases h4;refine .ptr (w.heap.size+1) 0 (.int .i64 n) (fun _=> .int .i64 n) (by simp[Ev.D.cells,Ev.D.AP]) (fun j c hj=> ?_) (fun j c hj=> ?_)
  · match j,hj with
    |0,hj=>exact⟨.inr (by omega),c2⟩
  · match j,hj with
    |0,hj=>cases hj;exact .int _ _
theorem UG:Ev.DR Tryz.prog cfg Pj (Ev.Ej Hm):=by
 obtain⟨c,hc⟩:∃ c,Tryz.f83.body=some c:=Option.isSome_iff_exists.1 (by kernel_rfl)
 exact UE (fun args w=>Ev.BW Tryz.func83 (by kernel_rfl) hc args w) eO
theorem Xc:Ev.DR Tryz.prog cfg Pk (Ev.Ej Hn):=by
 obtain⟨c,hc⟩:∃ c,Tryz.f120.body=some c:=Option.isSome_iff_exists.1 (by kernel_rfl)
 exact UE (fun args w=>Ev.BW Tryz.func120 (by kernel_rfl) hc args w) Xk
