import Derived.Test.YtplmdlobbfcknaaGreatDoorCode
import Derived.Test.YtplmdlobbfcknaaGreatDoorL4
import Derived.Test.YtplmdlobbfcknaaGreatDoorL9
import Derived.RangeFuncBox
import Derived.RangeFuncLeaves
import Derived.Shelf.Abstract
import Derived.WalkKit
import Derived.OwnWalkIn
import Derived.TacticsInMore
import Derived.LoopNIn
import Derived.LoopIn
import Derived.Test.YtplmdlobbfcknaaGreatDoorMKt
import Derived.Maps.Own
import Derived.Maps.Views
import Derived.StringKeys
import Derived.Deep.LoopGhost
import Derived.Test.YtplmdlobbfcknaaGreatDoorFl1
namespace Go.Proofs.YtplmdlobbfcknaaGreatDoor
open Go Go.Ev Go.RowKit Go.Shelf
attribute [local go_sem] Oper.semAt_some
set_option maxRecDepth 100000 in
set_option maxHeartbeats 2000000 in
theorem back1 (l Bs bs:Nat) (b off len cap:Nat) (vs:Nat→Nat→Value) (ok:World→Prop) (J:Nat→World→Prop) (Jx:World→Prop)
  (hload:∀ X,ok X→∀ i,i<len→X.cell? ⟨b,off+i*5,none⟩=some (vs i 0)∧X.cell? ⟨b,off+i*5+1,none⟩=some (vs i 1)∧X.cell? ⟨b,off+i*5+2,none⟩=some (vs i 2)∧X.cell? ⟨b,off+i*5+3,none⟩=some (vs i 3)∧X.cell? ⟨b,off+i*5+4,none⟩=some (vs i 4))
  (hsl:∀ X,ok X→X.cell? ⟨Bs,bs,none⟩=some (.slice (some ⟨b,off,none⟩) len cap)) (hlen:len*48≤140737488351232)
  (hY:∀ k X,J k X→ok X→k<len→YieldAt Fence.wide 0 Tryz.prog l #[.int .i64 ((len:Int)-1-k),.agg #[vs (len-1-k) 0,vs (len-1-k) 1,vs (len-1-k) 2,vs (len-1-k) 3,vs (len-1-k) 4]] X fun e Y=>(e= .returned (.bool true)∧J (k+1) Y∧ok Y)∨(e= .returned (.bool false)∧Jx Y))
  (W:World) (hok:ok W) (h0:J 0 W):CallsIn Fence.wide 0 Tryz.prog 154 #[.func (.yield l) #[] #[],.pointer (some ⟨Bs,bs,none⟩)] W fun e Y=>(∃ v,e= .returned v)∧(J len Y∨Jx Y):=by
 refine callsIn_of_wp Tryz.func154 rfl trivial ?_ rfl;simp only[Tryz.ntmps154,List.size_toArray,List.length_cons,List.length_nil,Nat.reduceAdd,Nat.reduceSub,Array.replicate_succ,Array.replicate_zero,List.push_toArray,List.append_toArray,List.nil_append,List.cons_append];have hs:=hsl W hok
 gi_wp2
 gi_loopw [3] (fun i wr=>∃ k:Nat,k≤len∧i= .int .i64 ((len:Int)-1-k)∧J k wr∧ok wr)
  (fun i _=>(intOf i+1).toNat)
 case atStart=>exact⟨0,zl _,by simp,h0,hok⟩
 case round=>
  obtain⟨k,hk,rfl,hJs,hox⟩:=hrel;have hsx:=hsl _ hox;by_cases hlt:k<len
  · obtain⟨fn,tmps,assign,body,hy,hR⟩:=hY k wr hJs hox hlt
    obtain⟨l0,l1,l2,l3,l4⟩:=hload wr hox (len-1-k) yj
    gi_wp2
    refine⟨rfl,hR.mono ?_⟩
    rintro e W3 (⟨rfl,hJ3,hk3⟩|⟨rfl,hJx3⟩)
    · gi_wp2
      go_roundw
      case rel=>exact⟨k+1,by omega,by go_num,hJ3,hk3⟩
      case measure=>simp[intOf];omega
    · gi_wp2
      refine bodyPost_ret (results_none rfl _ _ _) rfl ?_;exact⟨⟨_,rfl⟩,.inr hJx3⟩
  · obtain rfl:k=len:=yj
    gi_wp2
    go_end0
    exact⟨⟨_,rfl⟩,.inl hJs⟩
set_option maxRecDepth 100000 in
set_option maxHeartbeats 1000000 in
theorem back0 (l Bs bs:Nat) (ad:Option Addr) (cap:Nat) (J:Prop) (W:World) (hs:W.cell? ⟨Bs,bs,none⟩=some (.slice ad 0 cap)) (h0:J):
  CallsIn Fence.wide 0 Tryz.prog 154 #[.func (.yield l) #[] #[],.pointer (some ⟨Bs,bs,none⟩)] W fun e Y=>(∃ v,e= .returned v)∧Y=W:=by
 refine callsIn_of_wp Tryz.func154 rfl trivial ?_ rfl;simp only[Tryz.ntmps154,List.size_toArray,List.length_cons,List.length_nil,Nat.reduceAdd,Nat.reduceSub,Array.replicate_succ,Array.replicate_zero,List.push_toArray,List.append_toArray,List.nil_append,List.cons_append]
 gi_wp2
 gi_loopw [3] (fun i wr=>i= .int .i64 (-1)∧wr=W)
  (fun i _=>0)
 case atStart=>exact⟨rfl,rfl⟩
 case round=>
  obtain⟨rfl,rfl⟩:=hrel
  gi_wp2
  go_end0
  exact⟨⟨_,rfl⟩,rfl⟩
theorem mq:∀ (es:List D) (i j:Nat),(dp i es)[j]? =es[j]?.map fun x=>[.int .i64 ((i+j:Nat):Int),x]
 | [],_,_=>rfl
 |x::r,i,0=>rfl
 | x::r,i,j+1=>by
  rw[dp,List.getElem?_cons_succ,mq r (i+1) j,List.getElem?_cons_succ,show i+1+j=i+(j+1) by omega]
theorem fq:∀ (es:List D) (i:Nat),(dp i es).length=es.length
 | [],_=>rfl
 |x::r,i=>by rw[dp,List.length_cons,fq r (i+1),List.length_cons]
theorem a1p:(∀ args w,(callFunc 154 args).run Tryz.prog w= .ok (.enter 154 args) w)∧∀ ds its,uh 5 ds=some its→∀ (F:Nat→Prop) (lb:Array Value) (w:World),lb.size=ds.length→
   (∀ (i:Nat) v d,lb[i]? =some v→ds[i]? =some d→Rd F w v d)→∃ xs:List (Array Value),xs.length=its.length∧
     (∀ (i:Nat) x it,xs[i]? =some x→its[i]? =some it→x.size=it.length∧∀ (j:Nat) v d,x[j]? =some v→it[j]? =some d→Rd F w v d)∧Tells Tryz.prog 154 lb xs (KpOf F w) w:=by
 refine⟨fun args w=> ?_,fun ds its hg F lb w hsz hrd=> ?_⟩
 · obtain⟨c,hc⟩:∃ c,Tryz.f154.body=some c:=y5.1 yk
   exact run_enter Tryz.func154 yk hc args w
 unfold uh at hg;split at hg
 case h_2=>cases hg
 rename_i es;split at hg
 case isFalse=>cases hg
 rename_i hall;cases hg;obtain⟨hall,hlen⟩:=hall;obtain⟨lb⟩:=lb;cases lb with
 |nil=>simp at hsz
 |cons v lb=>
 cases lb with
 |cons u lb=>simp at hsz
 |nil=>
 have hv:=hrd 0 v _ rfl rfl;cases hv with
 |ptr Bs bs _ vp hc hm h=>
 obtain⟨hF,hcell⟩:=hm 0 _ rfl;have hsv:=h 0 _ rfl;have hBs:Bs<w.heap.size:=by simpa using World.block_lt_of_cell? _ _ hcell
 have keep:∀ X,KpOf F w w X→∀ b o u,F b→w.cell? (ad3 b o)=some u→X.cell? (ad3 b o)=some u:=fun X hX b o u hb hu=>by
   rw[cell_of_heap (hX b hb (by simpa using World.block_lt_of_cell? _ _ hu))];exact hu
 have hcellX:∀ X,KpOf F w w X→X.cell? (ad3 Bs bs)=some (vp 0):=fun X hX=>keep X hX Bs bs _ hF hcell
 generalize vp 0=sv at *;have trans:∀ X Y,KpOf F w w X→KpOf F w X Y→KpOf F w w Y:=fun X Y h1 h2 b hb hlt=>(h2 b hb hlt).trans (h1 b hb hlt)
 have start:∀ W,Below w.heap.size w W→KpOf F w w W:=fun W hW b hb hlt=>hW.block b hlt
 cases hsv with
 | slA ad cap=>
   refine⟨[],rfl,by simp,fun l J Jx W hW _ _ _ h0=> ?_⟩
   exact(back0 l Bs bs ad cap True W (hcellX W (start W hW)) trivial).mono fun e Y ⟨h1,h2⟩=>⟨h1,.inl (by rw[h2];exact h0)⟩
 | sl b o len cap z _ vs hl hcap hz hce hmm hh=>
   subst hl;have hagg:∀ i e,es[i]? =some e→∃ cs:List D,e=D.agg cs∧cs.length=5:=fun i e he=>by
     have:=zg.1 hall e (List.mem_of_getElem? he);cases e<;>simp[aggN] at this;exact⟨_,rfl,this⟩
   refine⟨(List.range es.length).map fun(k:Nat)=> #[Value.int .i64 ((es.length:Int)-1-k),.agg #[vs (es.length-1-k) 0,vs (es.length-1-k) 1,vs (es.length-1-k) 2,vs (es.length-1-k) 3,vs (es.length-1-k) 4]],by simp[fq],?_,?_⟩
   · intro i x it hx hit
     have hi:i<es.length:=by
       have:=(yo.1 hx).1;simpa using this
     rw[yw,List.getElem?_range hi,Option.map_some] at hx;cases hx;rw[List.getElem?_reverse (by rw[fq];exact hi),fq,mq] at hit
     obtain⟨e,he⟩:∃ e,es[es.length-1-i]? =some e:=⟨_,yp yj⟩
     rw[he,Option.map_some] at hit;cases hit;obtain⟨cs,rfl,hcs⟩:=hagg _ _ he;refine⟨rfl,fun j v d hj hd=> ?_⟩
     match j,hj,hd with
     | 0,hj,hd=>
       cases hj;cases hd;rw[show((0+(es.length-1-i):Nat):Int)=(es.length:Int)-1-i by omega]
       exact .int _ _
     | 1,hj,hd=>
       cases hj;cases hd;refine .agg [vs (es.length-1-i) 0,vs (es.length-1-i) 1,vs (es.length-1-i) 2,vs (es.length-1-i) 3,vs (es.length-1-i) 4] cs hcs.symm (hce _ (List.mem_of_getElem? he)) fun j v c h1 h2=> ?_
       have h3:=hh _ _ he j c h2
       match j,h1 with
       |0,h1=>cases h1;exact h3
       |1,h1=>cases h1;exact h3
       |2,h1=>cases h1;exact h3
       |3,h1=>cases h1;exact h3
       |4,h1=>cases h1;exact h3
       |j+5,h1=>cases h1
     |j+2,hj,hd=>cases hd
   · intro l J Jx W hW hJ1 hJ2 hY h0
     have five:∀ i,i<es.length→z=5:=fun i hi=>by
       obtain⟨cs,h1,h2⟩:=hagg i _ (yp hi);have:=hz _ (List.getElem_mem hi);rw[h1] at this;rw[← this];exact h2
     have:=back1 l Bs bs b o es.length cap vs (KpOf F w w) J Jx (fun X hX i hi=> ?_) (fun X hX=>hcellX X hX) yj (fun k X hJ hX hk=> ?_) W (start W hW) h0
     · rw[y9,List.length_range]
       exact this
     · have he:=yp hi
       obtain⟨cs,h1,h2⟩:=hagg i _ he;have hz5:=five i hi;rw[h1] at he;have get:∀ j,j<5→X.cell? (ad3 b (o+i*5+j))=some (vs i j):=fun j hj=>by
         obtain⟨g1,g2⟩:=hmm i _ he j (cs[j]'(by omega)) (yp (by omega:j<cs.length))
         rw[hz5] at g2;exact keep X hX b _ _ g1 g2
       exact⟨get 0 yj,get 1 yj,get 2 yj,get 3 yj,get 4 yj⟩
     · have:=hY k _ X (by rw[yw,List.getElem?_range hk,Option.map_some]) hJ
       obtain⟨fn,tmps,asg,body,hy,hR⟩:=this;refine⟨fn,tmps,asg,body,hy,hR.mono ?_⟩
       rintro e Y (⟨h1,h2,h3⟩|⟨h1,h2⟩)
       · exact .inl ⟨h1,h2,trans X Y hX h3⟩
       · exact .inr ⟨h1,h2⟩
end Go.Proofs.YtplmdlobbfcknaaGreatDoor
namespace Go.Proofs.YtplmdlobbfcknaaGreatDoor
open Go Go.RowKit
theorem laid_g {w:World} (h:∀ n ob,cfg.gobj n=some ob→Ev.HoldsG w n ob) [Me.Gam] (vo:VO):Me.Laid (cfg0 vo) w:=fun k cs hk=>by
 have hk:gE k=some cs:=hk;unfold gE at hk;split at hk
 · rename_i e
   subst e;cases hk;obtain⟨t,fr,hh⟩:=h 0 errTy rfl;refine⟨errTy,t,fr,hh,fun i x hx=> ?_⟩
   match i,hx with
   | 0,hx=>
    cases hx;exact⟨_,rfl,.ifc _ _ _ (Me.VR.agg' (.cons (.glob _ _) .nil))⟩
   |i+1,hx=>simp at hx
 · cases hk
theorem ok_known:Ev.Gives Tryz.prog cfg n_cd xd:=by
 obtain⟨c,hc⟩:∃ c,Tryz.f5.body=some c:=Option.isSome_iff_exists.1 (by kernel_rfl)
 refine Ev.gives_of_calls Tryz.func5 (by kernel_rfl) hc fun ds r hr=> ?_
 unfold xd at hr;split at hr
 · cases hr
   refine⟨_,rfl,rfl,fun F args w h1 _ h4=> ?_⟩
   obtain rfl:args= #[]:=by cases args;simp_all
   letI:Me.Gam:=⟨fun _=>(0,0)⟩
   exact(ahp w (laid_g h4 vo0)).mono fun e w' ⟨e1,e2⟩=>⟨_,e1,.bool true,e2⟩
 · cases hr
theorem arx (s:ByteArray) (i e:Int) (w:World):Calls Tryz.prog 22 #[.string s,.int .i64 i,.int .i64 e] w fun r w'=>∃ t,r= .returned (.iface 95 (.pointer (some ⟨w.heap.size,0,none⟩)))∧w'=w.alloc (.cells #[.string s,.int .i64 i,.iface 84 (.int .i64 e)] t):=by
 go_enter Tryz.func22,Tryz.ntmps22
 go_wp2
 go_ret
 exact⟨_,rfl,rfl⟩
theorem vc {F:Nat→Prop} {w:World} {args:Array Value} {d e g:Ev.D} (h1:args.size=[d,e,g].length) (h2:∀ (i:Nat) v d',args[i]? =some v→[d,e,g][i]? =some d'→Ev.Rd F w v d'):∃ v u t,args= #[v,u,t]∧Ev.Rd F w v d∧Ev.Rd F w u e∧Ev.Rd F w t g:=by
 obtain⟨l⟩:=args
 match l,h1 with
 | [v,u,t],_=>exact⟨v,u,t,rfl,h2 0 v d rfl rfl,h2 1 u e rfl rfl,h2 2 t g rfl rfl⟩
theorem ok_fault:Ev.Gives Tryz.prog cfg n_cg xe:=by
 obtain⟨c,hc⟩:∃ c,Tryz.f22.body=some c:=Option.isSome_iff_exists.1 (by kernel_rfl)
 intro ds r hr F args w h1 h2 _ _;unfold xe at hr;split at hr
 case h_2=>cases hr
 rename_i s i e;cases hr;obtain⟨v,u,t,rfl,hv,hu,ht⟩:=vc h1 h2;cases hv.str_inv;cases hu.int_inv;cases ht.int_inv;refine .inr ⟨Ev.run_enter Tryz.func22 (by kernel_rfl) hc _ w,(arx ⟨s.toArray⟩ i e w).mono fun r w' ⟨t,e1,e2⟩=> ?_⟩
 subst e1;subst e2;have hB:Below w.heap.size w (w.alloc (.cells #[.string ⟨s.toArray⟩,.int .i64 i,.iface 84 (.int .i64 e)] t)):=(Below.refl _ _).alloc (Nat.le_refl _) _;have hcell:∀ j,(w.alloc (.cells #[.string ⟨s.toArray⟩,.int .i64 i,.iface 84 (.int .i64 e)] t)).cell? (Ev.ad3 w.heap.size j)=(#[.string ⟨s.toArray⟩,.int .i64 i,.iface 84 (.int .i64 e)]:Array Value)[j]? :=fun j=>by
   rw[show Ev.ad3 w.heap.size j=⟨w.heap.size,j,none⟩ from rfl,World.cell?_alloc_new]
 refine⟨hB.size,fun b hb=>hB.block b hb,⟨hB.os,hB.tape,hB.output⟩,?_⟩
 refine .ifc 95 _ _ (.ptr w.heap.size 0 _ (fun j=>(#[.string ⟨s.toArray⟩,.int .i64 i,.iface 84 (.int .i64 e)]:Array Value).getD j undef) (by simp[Ev.D.cells,Ev.D.isCell]) (fun j c hj=> ?_) (fun j c hj=> ?_))
 · match j,hj with
   |0,hj=>exact⟨.inr (Nat.le_refl _),hcell _⟩
   |1,hj=>exact⟨.inr (Nat.le_refl _),hcell _⟩
   |2,hj=>exact⟨.inr (Nat.le_refl _),hcell _⟩
   |j+3,hj=>simp[Ev.D.cells] at hj
 · match j,hj with
   |0,hj=>cases hj;exact .str _
   |1,hj=>cases hj;exact .int _ _
   |2,hj=>cases hj;exact .ifc _ _ _ (.int _ _)
   |j+3,hj=>simp[Ev.D.cells] at hj
theorem ai7 [Me.Gam] {w:World} {b o:Nat} {us:List Value} {cs:List Me.M} (hne:us≠[]) (h:∀ (j:Nat) u,us[j]? =some u→w.cell? ⟨b,o+j,none⟩=some u) (hv:Me.VRs Me.Nm.none cs us):
   b<w.heap.size∧∃ (vs:Array Value) (ob:Obj),w.heap[b]? =some ob∧(∀ W:World,W.heap[b]? =some ob→∀ (j:Nat) v,vs[j]? =some v→W.cell? ⟨b,j+o,none⟩=some v)∧∀ (i:Nat) x,cs[i]? =some x→∃ v,vs[i]? =some v∧Me.VR Me.Nm.none x v:=by
 obtain⟨u,r,rfl⟩:∃ u r,us=u::r:=by cases us<;>first|exact absurd rfl hne|exact⟨_,_,rfl⟩
 have hlt:b<w.heap.size:=World.block_lt_of_cell? _ _ (h 0 u rfl);refine⟨hlt,(u::r).toArray,w.heap[b],Array.getElem?_eq_getElem hlt,fun W hW j v hj=> ?_,fun i x hx=> ?_⟩
 · rw[show j+o=o+j by omega,Ev.cell_of_heap (w:=w) (hW.trans (Array.getElem?_eq_getElem hlt).symm)]
   exact h j v (by simpa using hj)
 · have hl:i<(u::r).length:=by rw[← hv.1];exact(List.getElem?_eq_some_iff.1 hx).1
   exact⟨(u::r)[i],by simp[hl],hv.2 i x _ hx (List.getElem?_eq_getElem hl)⟩
theorem told_run {s:List UInt8} {i:Int} (h:toldB s i=true):∃ n:Nat,i=(n:Int)∧cg s n=true:=by
 letI:Me.Gam:=⟨fun _=>(0,0)⟩
 unfold toldB at h;simp only[Bool.or_eq_true,Bool.and_eq_true,beq_iff_eq,decide_eq_true_eq] at h;rcases h with⟨rfl,rfl⟩|⟨⟨rfl,h1⟩,h2⟩
 · exact⟨0,rfl,aqk⟩
 · exact⟨i.toNat,by omega,List.all_eq_true.1 xl i.toNat (List.mem_range.2 (by omega))⟩
theorem ok_tells:Ev.Gives Tryz.prog cfg n_bx xc:=by
 obtain⟨c,hc⟩:∃ c,Tryz.f9.body=some c:=Option.isSome_iff_exists.1 (by kernel_rfl)
 refine Ev.gives_of_calls Tryz.func9 (by kernel_rfl) hc fun ds r hr=> ?_
 unfold xc at hr;split at hr
 case h_2=>cases hr
 rename_i s i s' i';split at hr
 case isFalse=>cases hr
 rename_i hs;obtain⟨rfl,rfl,hs⟩:=hs;cases hr;refine⟨_,rfl,rfl,fun F args w h1 h2 h4=> ?_⟩
 obtain⟨v,u,t,rfl,hv,hu,ht⟩:=vc h1 h2;cases ht.int_inv;obtain⟨n,rfl,hrun⟩:=told_run hs;cases hv with|ifc _ p _ hp=>
 cases hp with|ptr b o _ vs hc1 hm hr=>
 cases hu with|sl b2 o2 len cap z _ vs2 hlen hcap hz hc2 hm2 hr2=>
 have hlen:1=len:=hlen;subst hlen
 letI:Me.Gam:=⟨fun k=>if k=0 then(b,o) else(b2,o2)⟩
 have c0:vs 0= .string ⟨s.toArray⟩:=(hr 0 _ rfl).str_inv;have c1:vs 1= .int .i64 (n:Int):=(hr 1 _ rfl).int_inv;have c2:vs 2= .iface 84 (.int .i64 2):=by
  have:=hr 2 _ rfl;generalize vs 2=q at this;cases this with|ifc _ q _ hq=>rw[hq.int_inv]
 have d0:vs2 0 0= .string ⟨s.toArray⟩:=(hr2 0 _ rfl 0 _ rfl).str_inv;have d1:vs2 0 1= .int .i64 (n:Int):=(hr2 0 _ rfl 1 _ rfl).int_inv;have d2:vs2 0 2= .int .i64 0:=(hr2 0 _ rfl 2 _ rfl).int_inv;have seen:Me.Seen (cfg0 (voT s n)) w:=fun k cs hk=>by
  have hk:voT s n k=some cs:=hk;unfold voT at hk;split at hk
  · rename_i e
    subst e;cases hk;refine ai7 (us:=[.string ⟨s.toArray⟩,.int .i64 (n:Int),.iface 84 (.int .i64 2)]) (by simp) (fun j u hj=> ?_) (.cons (.str _) (.cons (.int _ _) (.cons (.ifc _ _ _ (.int _ _)) .nil)))
    match j,hj with
    |0,hj=>cases hj;rw[← c0];exact(hm 0 _ rfl).2
    |1,hj=>cases hj;rw[← c1];exact(hm 1 _ rfl).2
    |2,hj=>cases hj;rw[← c2];exact(hm 2 _ rfl).2
    |j+3,hj=>simp at hj
  · split at hk
    · rename_i e
      subst e;cases hk;refine ai7 (us:=[.string ⟨s.toArray⟩,.int .i64 (n:Int),.int .i64 0]) (by simp) (fun j u hj=> ?_) (.cons (.str _) (.cons (.int _ _) (.cons (.int _ _) .nil)))
      match j,hj with
      |0,hj=>cases hj;rw[← d0];show w.cell? ⟨b2,o2+0,none⟩=_;simpa[Ev.ad3] using(hm2 0 _ rfl 0 _ rfl).2
      |1,hj=>cases hj;rw[← d1];show w.cell? ⟨b2,o2+1,none⟩=_;simpa[Ev.ad3] using(hm2 0 _ rfl 1 _ rfl).2
      |2,hj=>cases hj;rw[← d2];show w.cell? ⟨b2,o2+2,none⟩=_;simpa[Ev.ad3] using(hm2 0 _ rfl 2 _ rfl).2
      |j+3,hj=>simp at hj
    · cases hk
 have a0:Me.VR Me.noNm (.vg 0 0) (.pointer (some (Ev.ad3 b o))):=by
  have e:(⟨(Me.Gam.at_ 0).1,0+(Me.Gam.at_ 0).2,none⟩:Addr)=Ev.ad3 b o:=by show(⟨b,0+o,none⟩:Addr)=⟨b,o,none⟩;rw[Nat.zero_add]
  rw[← e];exact .vg 0 0
 have a1:Me.VR Me.noNm (.vsl 1 0 1) (.slice (some (Ev.ad3 b2 o2)) 1 cap):=by
  have e:(⟨(Me.Gam.at_ 1).1,0+(Me.Gam.at_ 1).2,none⟩:Addr)=Ev.ad3 b2 o2:=by show(⟨b2,0+o2,none⟩:Addr)=⟨b2,o2,none⟩;rw[Nat.zero_add]
  rw[← e];exact .vsl 1 0 1 cap hcap
 exact(Me.seen_call (C:=cfg0 (voT s n)) (call0 _) Tryz.func9 (by kernel_rfl) hc hrun w (laid_g h4 _) seen (.cons (.ifc _ _ _ a0) (.cons a1 (.cons (.int _ _) .nil)))).mono fun e w' ⟨e1,e2⟩=>⟨_,e1,.bool true,e2⟩
end Go.Proofs.YtplmdlobbfcknaaGreatDoor
namespace Go.Proofs.YtplmdlobbfcknaaGreatDoor
open Go Go.Ev Go.RowKit Go.WideMaps Go.Maps
theorem adn:Keyed Tryz.prog 9:=string_keyed Tryz.underlying9
theorem aq1 (w:World):(zeroValue 4).run Tryz.prog w= .ok (.bool false) w:=yk
def hadD:List Tx→DataW Unit
 | []=> .map []
 |s::had=>(hadD had).put (.string s) (.lit (.bool true))
theorem ady:∀ had,IsMap (hadD had)
 | []=>⟨[],rfl⟩
 | s::had=>by
  obtain⟨es,he⟩:=ady had;rw[hadD,he];exact⟨_,rfl⟩
theorem had_at (x:Tx):∀ had:List Tx,(hadD had).atKey (.string x) (.lit (.bool false))= .lit (.bool (had.contains x))
 | []=>rfl
 | s::had=>by
  rw[hadD];by_cases e:x=s
  · subst e
    rw[atKey_put_same (ady had) (by simp[WideAt.IsKeyLit])]
    simp
  · rw[atKey_put_other (by intro h;exact e (by simpa using h)),had_at x had]
    have:(x==s)=false:=by simpa using e
    rw[List.contains_cons,this,Bool.false_or]
theorem sr {P:Program} {e:TypeId} (he:P.underlying e=some .bool) {v:Value} {x:Bool} {ps:List MemPlace} (h:plainElem (H:=Unit) P e v=some (.lit (.bool x),ps)):v= .bool x:=by
 unfold plainElem at h;rw[he] at h;cases v<;>simp at h;rw[h.1]
set_option maxRecDepth 100000 in
theorem aq2 (a:Option Addr) (c:Nat) (w:World):Calls Tryz.prog 148 #[.slice a 0 c] w fun e w'=>e= .returned (.bool true)∧Below w.heap.size w w':=by
 have hmm:= @run_makeMap Tryz.prog
 go_enter Tryz.func148,Tryz.ntmps148
 go_wp2
 refine wp_loop_rounds 1 ?_;rw[rounds_succ]
 go_wp2
 go_ret
 exact⟨rfl,(Below.refl _ _).alloc (yt _) _⟩
set_option maxHeartbeats 4000000 in
set_option maxRecDepth 100000 in
theorem aq3 (b o c:Nat) (l:List Tx) (w:World) (hl:l.length≤1000000) (hcap:l.length≤c) (hb:b<w.heap.size) (hc:∀ (j:Nat) x,l[j]? =some x→w.cell? ⟨b,o+j,none⟩=some (.string ⟨x.toArray⟩)):
  Calls Tryz.prog 148 #[.slice (some ⟨b,o,none⟩) l.length c] w fun e w'=>e= .returned (.bool (gk [] l))∧Below w.heap.size w w':=by
 have hmm:= @run_makeMap Tryz.prog;have HC:Aside (∀ (j:Nat) x,l[j]? =some x→w.cell? ⟨b,o+j,none⟩=some (.string ⟨x.toArray⟩)):=hc
 clear hc
 go_enter Tryz.func148,Tryz.ntmps148
 go_wp2
 go_loopw [9] (fun i wr=>∃ (k:Nat) (had:List Tx),k≤l.length∧i= .int .i64 k∧wr.ownsMap Tryz.prog 9 (plainElem Tryz.prog 4) w.heap.size k (hadD had)∧Below w.heap.size w wr∧gk had (l.drop k)=gk [] l)
  (fun i _=>l.length-(intOf i).toNat)
 case atStart=>exact⟨0,[],zl _,rfl,World.ownsMap_made _ _ _ _,(Below.refl _ _).alloc (yt _) _,rfl⟩
 case round=>
  obtain⟨k,had,hk,rfl,hown,hnx,hok⟩:=hrel;by_cases hlt:k<l.length
  · obtain⟨s,hs⟩:∃ s,l[k]? =some s:=⟨_,yp hlt⟩
    have hcx:wr.cell? ⟨b,o+k,none⟩=some (.string ⟨s.toArray⟩):=(hnx.cell (by exact hb)).trans (HC.out k s hs)
    have hdrop:l.drop k=s::l.drop (k+1):=by
      rw[aag hlt];rw[yp hlt] at hs;cases hs;rfl
    rw[hdrop,gk] at hok;have OK:Aside ((!(s.isEmpty||decide (100<s.length)||had.contains s)&&gk (s::had) (l.drop (k+1)))=gk [] l):=hok;clear hs hdrop hok;by_cases h1:s=[]
    · subst h1
      go_wp2
      go_ret
      refine⟨?_,hnx⟩;rw[← OK.out];rfl
    · have hne:(⟨s.toArray⟩:ByteArray)≠⟨#[]⟩:=fun e=>h1 (by have:=congrArg (·.data.toList) e;simpa using this)
      by_cases h2:100<s.length
      · go_wp2
        go_ret
        refine⟨?_,hnx⟩;rw[← OK.out];have:decide (100<s.length)=true:=by simpa using h2
        rw[this];simp
      · have hkey:keyOf Tryz.prog 9 (.string ⟨s.toArray⟩)=some (.string s):=by
         have:=keyOf_string_mk (P:=Tryz.prog) (k:=9) Tryz.underlying9 (s:=⟨s.toArray⟩) (by unfold maxLen;simp[ByteArray.size];omega)
         simpa using this
        obtain⟨v,ps,hrun,hv⟩:=hown.lookup adn Tryz.underlying288 (aq1 wr) (plainElem_bool Tryz.underlying4 false) hkey;rw[had_at] at hv;obtain rfl:=sr Tryz.underlying4 hv;have e1:s.isEmpty=false:=by simpa using h1
        have e2:decide (100<(s.length:Int))=false:=by simp;omega
        cases hcn:had.contains s with
        | true=>
         rw[hcn] at hrun
         go_wp2
         go_ret
         refine⟨?_,hnx⟩;rw[← OK.out,hcn];simp
        | false=>
         rw[hcn] at hrun
         go_wp2_with (first
          | (at_mapUpdate;refine wpList_mapUpdate_own _ rfl _ _ _ 288 rfl 9 4 adn Tryz.underlying288 _ w.heap.size k _ rfl hown (by unfold maxLen;omega) _ _ _ rfl rfl hkey _ [] (plainElem_bool Tryz.underlying4 true) ?_)
          |go_in)
         intro w1 hown1 hgrow1;have R2:=hnx.grown hgrow1 hnx.size (fun j hj=>by cases hj;exact yt _)
         have hok':gk (s::had) (l.drop (k+1))=gk [] l:=by
          rw[← OK.out,hcn];have e1:s.isEmpty=false:=by simpa using h1
          have e2:decide (100<s.length)=false:=by simpa using h2
          rw[e1,e2];rfl
         clear hgrow1 hown hrun hcx hkey hnx
         go_wp2
         go_roundw
         case rel=>exact⟨k+1,s::had,by omega,by go_num,hown1,R2,hok'⟩
         case measure=>simp[intOf];omega
  · have:k=l.length:=yj
    subst this
    go_wp2
    go_ret
    rw[List.drop_length] at hok;exact⟨by rw[← hok];rfl,hnx⟩
end Go.Proofs.YtplmdlobbfcknaaGreatDoor
namespace Go.Proofs.YtplmdlobbfcknaaGreatDoor
open Go.Ev Go Go.RowKit
theorem clip116 (ad:Option Addr) (len cap:Nat) (w:World) (_:len≤cap):Calls Tryz.prog 116 #[.slice ad len cap] w fun e w'=>e= .returned (.slice ad len len)∧w'=w:=by
 go_enter Tryz.func116,Tryz.ntmps116
 go_wp2
 go_ret
 exact⟨rfl,rfl⟩
theorem bodyC116:∃ c,Tryz.f116.body=some c:=y5.1 yk
theorem clip94 (ad:Option Addr) (len cap:Nat) (w:World) (_:len≤cap):Calls Tryz.prog 94 #[.slice ad len cap] w fun e w'=>e= .returned (.slice ad len len)∧w'=w:=by
 go_enter Tryz.func94,Tryz.ntmps94
 go_wp2
 go_ret
 exact⟨rfl,rfl⟩
theorem bodyC94:∃ c,Tryz.f94.body=some c:=y5.1 yk
theorem clip121 (ad:Option Addr) (len cap:Nat) (w:World) (_:len≤cap):Calls Tryz.prog 121 #[.slice ad len cap] w fun e w'=>e= .returned (.slice ad len len)∧w'=w:=by
 go_enter Tryz.func121,Tryz.ntmps121
 go_wp2
 go_ret
 exact⟨rfl,rfl⟩
theorem bodyC121:∃ c,Tryz.f121.body=some c:=y5.1 yk
theorem clip114 (ad:Option Addr) (len cap:Nat) (w:World) (_:len≤cap):Calls Tryz.prog 114 #[.slice ad len cap] w fun e w'=>e= .returned (.slice ad len len)∧w'=w:=by
 go_enter Tryz.func114,Tryz.ntmps114
 go_wp2
 go_ret
 exact⟨rfl,rfl⟩
theorem bodyC114:∃ c,Tryz.f114.body=some c:=y5.1 yk
theorem clip157 (ad:Option Addr) (len cap:Nat) (w:World) (_:len≤cap):Calls Tryz.prog 157 #[.slice ad len cap] w fun e w'=>e= .returned (.slice ad len len)∧w'=w:=by
 go_enter Tryz.func157,Tryz.ntmps157
 go_wp2
 go_ret
 exact⟨rfl,rfl⟩
theorem bodyC157:∃ c,Tryz.f157.body=some c:=y5.1 yk
theorem clip119 (ad:Option Addr) (len cap:Nat) (w:World) (_:len≤cap):Calls Tryz.prog 119 #[.slice ad len cap] w fun e w'=>e= .returned (.slice ad len len)∧w'=w:=by
 go_enter Tryz.func119,Tryz.ntmps119
 go_wp2
 go_ret
 exact⟨rfl,rfl⟩
theorem bodyC119:∃ c,Tryz.f119.body=some c:=y5.1 yk
theorem clip156 (ad:Option Addr) (len cap:Nat) (w:World) (_:len≤cap):Calls Tryz.prog 156 #[.slice ad len cap] w fun e w'=>e= .returned (.slice ad len len)∧w'=w:=by
 go_enter Tryz.func156,Tryz.ntmps156
 go_wp2
 go_ret
 exact⟨rfl,rfl⟩
theorem bodyC156:∃ c,Tryz.f156.body=some c:=y5.1 yk
theorem clip155 (ad:Option Addr) (len cap:Nat) (w:World) (_:len≤cap):Calls Tryz.prog 155 #[.slice ad len cap] w fun e w'=>e= .returned (.slice ad len len)∧w'=w:=by
 go_enter Tryz.func155,Tryz.ntmps155
 go_wp2
 go_ret
 exact⟨rfl,rfl⟩
theorem bodyC155:∃ c,Tryz.f155.body=some c:=y5.1 yk
theorem clip111 (ad:Option Addr) (len cap:Nat) (w:World) (_:len≤cap):Calls Tryz.prog 111 #[.slice ad len cap] w fun e w'=>e= .returned (.slice ad len len)∧w'=w:=by
 go_enter Tryz.func111,Tryz.ntmps111
 go_wp2
 go_ret
 exact⟨rfl,rfl⟩
theorem bodyC111:∃ c,Tryz.f111.body=some c:=y5.1 yk
theorem clip107 (ad:Option Addr) (len cap:Nat) (w:World) (_:len≤cap):Calls Tryz.prog 107 #[.slice ad len cap] w fun e w'=>e= .returned (.slice ad len len)∧w'=w:=by
 go_enter Tryz.func107,Tryz.ntmps107
 go_wp2
 go_ret
 exact⟨rfl,rfl⟩
theorem bodyC107:∃ c,Tryz.f107.body=some c:=y5.1 yk
theorem clip32 (ad:Option Addr) (len cap:Nat) (w:World) (_:len≤cap):Calls Tryz.prog 32 #[.slice ad len cap] w fun e w'=>e= .returned (.slice ad len len)∧w'=w:=by
 go_enter Tryz.func32,Tryz.ntmps32
 go_wp2
 go_ret
 exact⟨rfl,rfl⟩
theorem bodyC32:∃ c,Tryz.f32.body=some c:=y5.1 yk
theorem clip_ok:a13 Tryz.prog cfg:=fun f hf=>by
 have hf':clips.contains f=true:=hf;simp only[clips,List.contains_cons,List.contains_nil,Bool.or_false,aan,aad] at hf';rcases hf' with rfl|rfl|rfl|rfl|rfl|rfl|rfl|rfl|rfl|rfl|rfl
 · obtain⟨c,hc⟩:=bodyC116
   exact aq Tryz.func116 yk hc clip116
 · obtain⟨c,hc⟩:=bodyC94
   exact aq Tryz.func94 yk hc clip94
 · obtain⟨c,hc⟩:=bodyC121
   exact aq Tryz.func121 yk hc clip121
 · obtain⟨c,hc⟩:=bodyC114
   exact aq Tryz.func114 yk hc clip114
 · obtain⟨c,hc⟩:=bodyC157
   exact aq Tryz.func157 yk hc clip157
 · obtain⟨c,hc⟩:=bodyC119
   exact aq Tryz.func119 yk hc clip119
 · obtain⟨c,hc⟩:=bodyC156
   exact aq Tryz.func156 yk hc clip156
 · obtain⟨c,hc⟩:=bodyC155
   exact aq Tryz.func155 yk hc clip155
 · obtain⟨c,hc⟩:=bodyC111
   exact aq Tryz.func111 yk hc clip111
 · obtain⟨c,hc⟩:=bodyC107
   exact aq Tryz.func107 yk hc clip107
 · obtain⟨c,hc⟩:=bodyC32
   exact aq Tryz.func32 yk hc clip32
theorem follows:Tryz.prog.follows .mixedOrders=true:=yk
theorem bodyN:∃ c,Tryz.f148.body=some c:=y5.1 yk
theorem ok_names:Gives Tryz.prog cfg n_cw aio:=by
 obtain⟨c,hc⟩:=bodyN;exact aht Tryz.func148 yk hc aq2 fun b o c l w h1 h2 h3 h4=>aq3 b o c l w h1 h2 h3 h4
theorem bodyB:∃ c,Tryz.f136.body=some c:=y5.1 yk
theorem a1o (a:Option Addr) (len cap:Nat) (w:World):Calls Tryz.prog 136 #[.slice a len cap] w fun e w'=>e= .returned (.func (.func 154) #[] #[.pointer (some ⟨w.heap.size,0,none⟩)])∧w'=w.alloc (.cells #[.slice a len cap] 157):=by
 go_enter Tryz.func136,Tryz.ntmps136
 go_wp2
 go_ret
 exact⟨rfl,rfl⟩
theorem ahn:Gives Tryz.prog cfg n_bn (xSeq n_bv):=by
 obtain⟨c,hc⟩:=bodyB;intro ds r hr F args w h1 h2 _ _;unfold xSeq at hr;split at hr
 case h_2=>cases hr
 rename_i es;cases hr;obtain⟨v,rfl,hv⟩:=ap9 h1 h2;have hs:∃ a len cap,v= .slice a len cap:=by cases hv<;>exact⟨_,_,_,rfl⟩
 obtain⟨a,len,cap,rfl⟩:=hs;refine .inr ⟨run_enter Tryz.func136 yk hc _ w,(a1o a len cap w).mono fun e w' ⟨e1,e2⟩=> ?_⟩
 subst e1;subst e2;have hB:Below w.heap.size w (w.alloc (.cells #[.slice a len cap] 157)):=(Below.refl _ _).alloc (yt _) _;have hcell:(w.alloc (.cells #[.slice a len cap] 157)).cell? (ad3 w.heap.size 0)=some (.slice a len cap):=by
  rw[show ad3 w.heap.size 0=⟨w.heap.size,0,none⟩ from rfl,World.cell?_alloc_new]
  rfl
 refine⟨hB.size,fun b hb=>hB.block b hb,⟨hB.os,hB.tape,hB.output⟩,[.pointer (some ⟨w.heap.size,0,none⟩)],[.ptr (.sl es)],rfl,rfl,rfl,fun i u e h3 h4=> ?_⟩
 match i,h3,h4 with
 | 0,h3,h4=>
  cases h3;cases h4;refine .ptr w.heap.size 0 (.sl es) (fun _=> .slice a len cap) (by simp[D.cells,D.isCell]) (fun j c hj=> ?_) (fun j c hj=> ?_)
  · match j,hj with
    |0,hj=>exact⟨.inr (yt _),hcell⟩
  · match j,hj with
    | 0,hj=>
     cases hj;exact hv.mono fun b o u hb hu=>⟨.inl hb,by rw[cell_of_heap (hB.block b (by simpa using World.block_lt_of_cell? _ _ hu))];exact hu⟩
theorem ext_ok:ExtOk Tryz.prog cfg:=extOk_of fun f g hf=>by
 have hf':exts f=some g:=hf;unfold exts at hf';split at hf'
 · rename_i e;cases hf';rw[e];exact ok_names
 split at hf'
 · rename_i e;cases hf';rw[e];exact ara
 split at hf'
 · rename_i e;cases hf';rw[e];exact ok_known
 split at hf'
 · rename_i e;cases hf';rw[e];exact ok_fault
 split at hf'
 · rename_i e;cases hf';rw[e];exact ok_tells
 split at hf'
 · rename_i e;cases hf';rw[e];exact ahn
 cases hf'
theorem iter_ok:IterOk Tryz.prog cfg:=fun f g hg=>by
 have hg':iters f=some g:=hg;unfold iters at hg';split at hg'
 · rename_i e;cases hg';rw[e];exact a1p
 cases hg'
theorem cfg_ok:CfgOk Tryz.prog cfg where
 intTy:=fun t h=>by cases h
 meth:=fun t n f h=>by cases h
 clip:=clip_ok
 iter:=iter_ok
theorem funcs_ok:si Tryz.prog cfg:=fun f fn hf=>by
 have hf':fnsOf Tryz.prog tbl tab f=some fn:=hf;unfold fnsOf at hf';split at hf'
 · rename_i fn' h
   cases hf';exact tbl_ok (f,fn) (az0 h)
 · exact ap8 tab_ok hf'
