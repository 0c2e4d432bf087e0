import Derived.Test.YtmeohcmbohicoaaGreatDoorCode
import Derived.Test.YtmeohcmbohicoaaGreatDoorL4
import Derived.Test.YtmeohcmbohicoaaGreatDoorL9
import Derived.RangeFuncBox
import Derived.RangeFuncLeaves
import Derived.Shelf.Abstract
import Derived.WalkKit
import Derived.OwnWalkIn
import Derived.TacticsInMore
import Derived.LoopNIn
import Derived.LoopIn
namespace Go.Proofs.YtmeohcmbohicoaaGreatDoor
open Go Go.Ev Go.RowKit Go.Shelf
attribute [local go_sem] Oper.semAt_some
set_option maxRecDepth 100000 in
set_option maxHeartbeats 2000000 in
theorem back1 (l Bs bs:Nat) (b off len cap:Nat) (vs:Nat→Nat→Value) (ok:World→Prop) (J:Nat→World→Prop) (Jx:World→Prop)
  (hload:∀ X,ok X→∀ i,i<len→X.cell? ⟨b,off+i*5,none⟩=some (vs i 0)∧X.cell? ⟨b,off+i*5+1,none⟩=some (vs i 1)∧X.cell? ⟨b,off+i*5+2,none⟩=some (vs i 2)∧X.cell? ⟨b,off+i*5+3,none⟩=some (vs i 3)∧X.cell? ⟨b,off+i*5+4,none⟩=some (vs i 4))
  (hsl:∀ X,ok X→X.cell? ⟨Bs,bs,none⟩=some (.slice (some ⟨b,off,none⟩) len cap)) (hlen:len*48≤140737488351232)
  (hY:∀ k X,J k X→ok X→k<len→YieldAt Fence.wide 0 Tryz.prog l #[.int .i64 ((len:Int)-1-k),.agg #[vs (len-1-k) 0,vs (len-1-k) 1,vs (len-1-k) 2,vs (len-1-k) 3,vs (len-1-k) 4]] X fun e Y=>(e= .returned (.bool true)∧J (k+1) Y∧ok Y)∨(e= .returned (.bool false)∧Jx Y))
  (W:World) (hok:ok W) (h0:J 0 W):CallsIn Fence.wide 0 Tryz.prog 124 #[.func (.yield l) #[] #[],.pointer (some ⟨Bs,bs,none⟩)] W fun e Y=>(∃ v,e= .returned v)∧(J len Y∨Jx Y):=by
 refine callsIn_of_wp Tryz.func124 rfl trivial ?_ rfl;simp only[Tryz.ntmps124,List.size_toArray,List.length_cons,List.length_nil,Nat.reduceAdd,Nat.reduceSub,Array.replicate_succ,Array.replicate_zero,List.push_toArray,List.append_toArray,List.nil_append,List.cons_append];have hs:=hsl W hok
 gi_wp2
 gi_loopw [3] (fun i wr=>∃ k:Nat,k≤len∧i= .int .i64 ((len:Int)-1-k)∧J k wr∧ok wr)
  (fun i _=>(intOf i+1).toNat)
 case atStart=>exact⟨0,ww _,by simp,h0,hok⟩
 case round=>
  obtain⟨k,hk,rfl,hJs,hox⟩:=hrel;have hsx:=hsl _ hox;by_cases hlt:k<len
  · obtain⟨fn,tmps,assign,body,hy,hR⟩:=hY k wr hJs hox hlt
    obtain⟨l0,l1,l2,l3,l4⟩:=hload wr hox (len-1-k) vn
    gi_wp2
    refine⟨rfl,hR.mono ?_⟩
    rintro e W3 (⟨rfl,hJ3,hk3⟩|⟨rfl,hJx3⟩)
    · gi_wp2
      go_roundw
      case rel=>exact⟨k+1,by omega,by go_num,hJ3,hk3⟩
      case measure=>simp[intOf];omega
    · gi_wp2
      refine bodyPost_ret (results_none rfl _ _ _) rfl ?_;exact⟨⟨_,rfl⟩,.inr hJx3⟩
  · obtain rfl:k=len:=vn
    gi_wp2
    go_end0
    exact⟨⟨_,rfl⟩,.inl hJs⟩
set_option maxRecDepth 100000 in
set_option maxHeartbeats 1000000 in
theorem back0 (l Bs bs:Nat) (ad:Option Addr) (cap:Nat) (J:Prop) (W:World) (hs:W.cell? ⟨Bs,bs,none⟩=some (.slice ad 0 cap)) (h0:J):
  CallsIn Fence.wide 0 Tryz.prog 124 #[.func (.yield l) #[] #[],.pointer (some ⟨Bs,bs,none⟩)] W fun e Y=>(∃ v,e= .returned v)∧Y=W:=by
 refine callsIn_of_wp Tryz.func124 rfl trivial ?_ rfl;simp only[Tryz.ntmps124,List.size_toArray,List.length_cons,List.length_nil,Nat.reduceAdd,Nat.reduceSub,Array.replicate_succ,Array.replicate_zero,List.push_toArray,List.append_toArray,List.nil_append,List.cons_append]
 gi_wp2
 gi_loopw [3] (fun i wr=>i= .int .i64 (-1)∧wr=W)
  (fun i _=>0)
 case atStart=>exact⟨rfl,rfl⟩
 case round=>
  obtain⟨rfl,rfl⟩:=hrel
  gi_wp2
  go_end0
  exact⟨⟨_,rfl⟩,rfl⟩
theorem kt:∀ (es:List D) (i j:Nat),(cz i es)[j]? =es[j]?.map fun x=>[.int .i64 ((i+j:Nat):Int),x]
 | [],_,_=>rfl
 |x::r,i,0=>rfl
 | x::r,i,j+1=>by
  rw[cz,List.getElem?_cons_succ,kt r (i+1) j,List.getElem?_cons_succ,show i+1+j=i+(j+1) by omega]
theorem d6:∀ (es:List D) (i:Nat),(cz i es).length=es.length
 | [],_=>rfl
 |x::r,i=>by rw[cz,List.length_cons,d6 r (i+1),List.length_cons]
theorem a8k:(∀ args w,(callFunc 124 args).run Tryz.prog w= .ok (.enter 124 args) w)∧∀ ds its,r8 5 ds=some its→∀ (F:Nat→Prop) (lb:Array Value) (w:World),lb.size=ds.length→
   (∀ (i:Nat) v d,lb[i]? =some v→ds[i]? =some d→Rd F w v d)→∃ xs:List (Array Value),xs.length=its.length∧
     (∀ (i:Nat) x it,xs[i]? =some x→its[i]? =some it→x.size=it.length∧∀ (j:Nat) v d,x[j]? =some v→it[j]? =some d→Rd F w v d)∧Tells Tryz.prog 124 lb xs (KpOf F w) w:=by
 refine⟨fun args w=> ?_,fun ds its hg F lb w hsz hrd=> ?_⟩
 · obtain⟨c,hc⟩:∃ c,Tryz.f124.body=some c:=wo.1 vo
   exact eq Tryz.func124 vo hc args w
 unfold r8 at hg;split at hg
 case h_2=>cases hg
 rename_i es;split at hg
 case isFalse=>cases hg
 rename_i hall;cases hg;obtain⟨hall,hlen⟩:=hall;obtain⟨lb⟩:=lb;cases lb with
 |nil=>simp at hsz
 |cons v lb=>
 cases lb with
 |cons u lb=>simp at hsz
 |nil=>
 have hv:=hrd 0 v _ rfl rfl;cases hv with
 |ptr Bs bs _ vp hc hm h=>
 obtain⟨hF,hcell⟩:=hm 0 _ rfl;have hsv:=h 0 _ rfl;have hBs:Bs<w.heap.size:=by simpa using World.block_lt_of_cell? _ _ hcell
 have keep:∀ X,KpOf F w w X→∀ b o u,F b→w.cell? (ad3 b o)=some u→X.cell? (ad3 b o)=some u:=fun X hX b o u hb hu=>by
   rw[bh (hX b hb (by simpa using World.block_lt_of_cell? _ _ hu))];exact hu
 have hcellX:∀ X,KpOf F w w X→X.cell? (ad3 Bs bs)=some (vp 0):=fun X hX=>keep X hX Bs bs _ hF hcell
 generalize vp 0=sv at *;have trans:∀ X Y,KpOf F w w X→KpOf F w X Y→KpOf F w w Y:=fun X Y h1 h2 b hb hlt=>(h2 b hb hlt).trans (h1 b hb hlt)
 have start:∀ W,Below w.heap.size w W→KpOf F w w W:=fun W hW b hb hlt=>hW.block b hlt
 cases hsv with
 | slA ad cap=>
   refine⟨[],rfl,by simp,fun l J Jx W hW _ _ _ h0=> ?_⟩
   exact(back0 l Bs bs ad cap True W (hcellX W (start W hW)) trivial).mono fun e Y ⟨h1,h2⟩=>⟨h1,.inl (by rw[h2];exact h0)⟩
 | sl b o len cap z _ vs hl hcap hz hce hmm hh=>
   subst hl;have hagg:∀ i e,es[i]? =some e→∃ cs:List D,e=D.agg cs∧cs.length=5:=fun i e he=>by
     have:=yc.1 hall e (List.mem_of_getElem? he);cases e<;>simp[aggN] at this;exact⟨_,rfl,this⟩
   refine⟨(List.range es.length).map fun(k:Nat)=> #[Value.int .i64 ((es.length:Int)-1-k),.agg #[vs (es.length-1-k) 0,vs (es.length-1-k) 1,vs (es.length-1-k) 2,vs (es.length-1-k) 3,vs (es.length-1-k) 4]],by simp[d6],?_,?_⟩
   · intro i x it hx hit
     have hi:i<es.length:=by
       have:=(vw.1 hx).1;simpa using this
     rw[v6,List.getElem?_range hi,Option.map_some] at hx;cases hx;rw[List.getElem?_reverse (by rw[d6];exact hi),d6,kt] at hit
     obtain⟨e,he⟩:∃ e,es[es.length-1-i]? =some e:=⟨_,vy vn⟩
     rw[he,Option.map_some] at hit;cases hit;obtain⟨cs,rfl,hcs⟩:=hagg _ _ he;refine⟨rfl,fun j v d hj hd=> ?_⟩
     match j,hj,hd with
     | 0,hj,hd=>
       cases hj;cases hd;rw[show((0+(es.length-1-i):Nat):Int)=(es.length:Int)-1-i by omega]
       exact .int _ _
     | 1,hj,hd=>
       cases hj;cases hd;refine .agg [vs (es.length-1-i) 0,vs (es.length-1-i) 1,vs (es.length-1-i) 2,vs (es.length-1-i) 3,vs (es.length-1-i) 4] cs hcs.symm (hce _ (List.mem_of_getElem? he)) fun j v c h1 h2=> ?_
       have h3:=hh _ _ he j c h2
       match j,h1 with
       |0,h1=>cases h1;exact h3
       |1,h1=>cases h1;exact h3
       |2,h1=>cases h1;exact h3
       |3,h1=>cases h1;exact h3
       |4,h1=>cases h1;exact h3
       |j+5,h1=>cases h1
     |j+2,hj,hd=>cases hd
   · intro l J Jx W hW hJ1 hJ2 hY h0
     have five:∀ i,i<es.length→z=5:=fun i hi=>by
       obtain⟨cs,h1,h2⟩:=hagg i _ (vy hi);have:=hz _ (List.getElem_mem hi);rw[h1] at this;rw[← this];exact h2
     have:=back1 l Bs bs b o es.length cap vs (KpOf F w w) J Jx (fun X hX i hi=> ?_) (fun X hX=>hcellX X hX) vn (fun k X hJ hX hk=> ?_) W (start W hW) h0
     · rw[vu,List.length_range]
       exact this
     · have he:=vy hi
       obtain⟨cs,h1,h2⟩:=hagg i _ he;have hz5:=five i hi;rw[h1] at he;have get:∀ j,j<5→X.cell? (ad3 b (o+i*5+j))=some (vs i j):=fun j hj=>by
         obtain⟨g1,g2⟩:=hmm i _ he j (cs[j]'(by omega)) (vy (by omega:j<cs.length))
         rw[hz5] at g2;exact keep X hX b _ _ g1 g2
       exact⟨get 0 vn,get 1 vn,get 2 vn,get 3 vn,get 4 vn⟩
     · have:=hY k _ X (by rw[v6,List.getElem?_range hk,Option.map_some]) hJ
       obtain⟨fn,tmps,asg,body,hy,hR⟩:=this;refine⟨fn,tmps,asg,body,hy,hR.mono ?_⟩
       rintro e Y (⟨h1,h2,h3⟩|⟨h1,h2⟩)
       · exact .inl ⟨h1,h2,trans X Y hX h3⟩
       · exact .inr ⟨h1,h2⟩
