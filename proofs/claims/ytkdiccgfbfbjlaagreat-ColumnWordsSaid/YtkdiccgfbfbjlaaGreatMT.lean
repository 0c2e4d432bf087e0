import Derived.Test.YtkdiccgfbfbjlaaGreatOrc
import Derived.Test.YtkdiccgfbfbjlaaGreatL4
import Derived.Test.YtkdiccgfbfbjlaaGreatL2
import Derived.Test.YtkdiccgfbfbjlaaGreatMeX1
import Derived.Test.YtkdiccgfbfbjlaaGreatMK
import Derived.Test.YtkdiccgfbfbjlaaGreatCode
import Derived.Test.YtkdiccgfbfbjlaaGreatL9
import Derived.WalkKit
namespace Go.Proofs.YtkdiccgfbfbjlaaGreat
open Go Go.Ev Go.RowKit
theorem wa {i n m:Nat} (hm:0<m):i<(n+m-1) / m↔i*m<n:=by
 rw[show i<(n+m-1) / m↔i+1≤(n+m-1) / m from Iff.rfl,Nat.le_div_iff_mul_le hm,Nat.succ_mul]
 omega
theorem nb (m:Nat) (hm:0<m):∀ (k:Nat) (es:List D),es.length≤k→∀ i,(b5 k m es)[i]? =if i*m<es.length then some [.sl ((es.drop (i*m)).take m)] else none
 |0,[],h,i=>by simp[b5]
 |0,x::r,h,i=>by simp at h
 |k+1,[],h,i=>by simp[b5]
 |k+1,x::r,h,0=>by simp[b5]
 | k+1,x::r,h,i+1=>by
  rw[b5,List.getElem?_cons_succ,nb m hm k _ (by rw[aat];simp at h ⊢;omega),aat,List.drop_drop,Nat.succ_mul,show m+i*m=i*m+m by omega]
  generalize i*m=q;by_cases c:q+m<(x::r).length
  · rw[if_pos c,if_pos yp]
  · rw[if_neg c,if_neg yp]
theorem ajh (m:Nat) (hm:0<m) (es:List D):(b5 es.length m es).length=(es.length+m-1) / m:=by
 have h:∀ i,i<(b5 es.length m es).length↔i<(es.length+m-1) / m:=fun i=>by
  rw[wa hm];have:=nb m hm es.length es (y7 _) i;constructor
  · intro hi
    rw[yy hi] at this;apply Classical.byContradiction;intro c;rw[if_neg c] at this;cases this
  · intro hi
    rw[if_pos hi] at this;exact(y4.1 this).1
 have h1:=h (b5 es.length m es).length;have h2:=h ((es.length+m-1) / m);omega
theorem a4p {e:D} (h:e.isCell=true):e.cells=[e]:=by cases e<;>first|rfl|cases h
theorem t6 {P:Program} {f:FuncId} (hent:∀ args w,(callFunc f args).run P w= .ok (.enter f args) w) (hw:Go.Me.ChunkWalk P f 1):
   (∀ args w,(callFunc f args).run P w= .ok (.enter f args) w)∧∀ ds its,gk ds=some its→∀ (F:Nat→Prop) (lb:Array Value) (w:World),lb.size=ds.length→
   (∀ (i:Nat) v d,lb[i]? =some v→ds[i]? =some d→Rd F w v d)→∃ xs:List (Array Value),xs.length=its.length∧
     (∀ (i:Nat) x it,xs[i]? =some x→its[i]? =some it→x.size=it.length∧∀ (j:Nat) v d,x[j]? =some v→it[j]? =some d→Rd F w v d)∧Ev.Tells P f lb xs (KpOf F w) w:=by
 refine⟨hent,fun ds its hg F lb w hsz hrd=> ?_⟩
 unfold gk at hg;split at hg
 case h_2=>cases hg
 rename_i es n0;split at hg
 case isFalse=>cases hg
 rename_i hc;cases hg;obtain⟨hn1,hn2,hall,hlen⟩:=hc;obtain⟨m,rfl⟩:∃ m:Nat,n0=(m:Int):=⟨n0.toNat,by omega⟩
 have hm:0<m:=yp;rw[show((m:Int)).toNat=m by omega]
 obtain⟨lb⟩:=lb
 match lb,hsz with
 | [v,u],_=>
 have hv:=hrd 0 v _ rfl rfl;have hu:=hrd 1 u _ rfl rfl;cases hv with|ptr B o _ vp hc1 hm1 h1=>
 cases hu with|ptr B' o' _ up hc2 hm2 h2=>
 obtain⟨hF1,hcell1⟩:=hm1 0 _ rfl;obtain⟨hF2,hcell2⟩:=hm2 0 _ rfl;have hs:=h1 0 _ rfl;have hi:=(h2 0 _ rfl).int_inv;generalize vp 0=sv at *;generalize up 0=iv at *;subst hi;have keep:∀ X,KpOf F w w X→∀ b o u,F b→w.cell? (ad3 b o)=some u→X.cell? (ad3 b o)=some u:=fun X hX b o u hb hu=>by
   rw[cell_of_heap (hX b hb (by simpa using World.block_lt_of_cell? _ _ hu))];exact hu
 have start:∀ W,Below w.heap.size w W→KpOf F w w W:=fun W hW b hb hlt=>hW.block b hlt
 have stay:∀ X Y,KpOf F w w X→X.grownBy Y none→KpOf F w w Y:=fun X Y h1 h2 b hb hlt=>by
   have e:=h1 b hb hlt;have hx:b<X.heap.size:=by
     apply Classical.byContradiction;intro c;rw[zm hlt,Array.getElem?_eq_none yp] at e;cases e
   exact(h2.block b hx yt).trans e
 have trans:∀ X Y,KpOf F w w X→KpOf F w X Y→KpOf F w w Y:=fun X Y h1 h2 b hb hlt=>(h2 b hb hlt).trans (h1 b hb hlt)
 have hone:∀ e∈es,e.cells.length=1:=fun e he=>by rw[a4p (aac.1 hall e he)];rfl
 have htell:∀ (ad:Option Addr) (cap:Nat) (xs:List (Array Value)),xs.length=(es.length+m-1) / m→sv= .slice ad es.length cap→es.length≤cap→
     (∀ i,i*m<es.length→∃ c p,ad=some ⟨c,p,none⟩∧xs[i]? =some #[.slice (some ⟨c,p+i*m*1,none⟩) (min m (es.length-i*m)) (min m (es.length-i*m))])→
     Ev.Tells P f ⟨[Value.pointer (some (ad3 B o)),.pointer (some (ad3 B' o'))]⟩ xs (KpOf F w) w:=by
   intro ad cap xs hxs hsv hcap hat l J Jx W hW hJ1 hJ2 hY h0;have hb:es.length+m<4611686018427387904:=yp;have:=hw l B o B' o' es.length m (fun i X=>J i X∧KpOf F w w X) Jx W hm hb (fun i X Y ⟨a,b⟩ h=>⟨hJ1 i X Y a h,stay X Y b h⟩) hJ2 (fun i X hi ⟨hJ,hX⟩=> ?_) ⟨h0,start W hW⟩
   · refine this.mono fun e Y ⟨a,b⟩=>⟨a,?_⟩
     rw[hxs];exact b.imp (fun h=>h.1) id
   · refine⟨ad,cap,by rw[← hsv];exact keep X hX B o _ hF1 hcell1,hcap,keep X hX B' o' _ hF2 hcell2,fun hlt=> ?_⟩
     obtain⟨c,p,e1,e2⟩:=hat i hlt;refine⟨c,p,e1,?_⟩;obtain⟨fn,tmps,asg,body,hy,hR⟩:=hY i _ X e2 hJ;refine⟨fn,tmps,asg,body,hy,hR.mono ?_⟩
     rintro e Y (⟨h1,h2,h3⟩|⟨h1,h2⟩)
     · exact .inl ⟨h1,h2,trans X Y hX h3⟩
     · exact .inr ⟨h1,h2⟩
 rcases hs.sl_at (z:=1) (fun e he=>hone e (by cases es with|nil=>cases he|cons x r=>cases he;simp)) with⟨ad,cap,rfl,rfl⟩|⟨b,p,cap,rfl,hcap,_,hpt⟩
 · refine⟨[],rfl,by simp,htell ad cap [] ?_ rfl (aad _) fun i hi=>by simp at hi⟩
   rw[List.length_nil,List.length_nil,Nat.zero_add,Nat.div_eq_of_lt yp]
 · refine⟨(List.range ((es.length+m-1) / m)).map fun(i:Nat)=> #[Value.slice (some (ad3 b (p+i*m*1))) (min m (es.length-i*m)) (min m (es.length-i*m))],by rw[ajh m hm];simp,?_,?_⟩
   · intro i x it hx hit
     have hi:i<(es.length+m-1) / m:=by
       have:=(y4.1 hx).1;simpa using this
     rw[zg,List.getElem?_range hi,Option.map_some] at hx;cases hx;have hlt:=(wa hm).1 hi;rw[nb m hm _ es (y7 _),if_pos hlt] at hit;cases hit;refine⟨rfl,fun j v d hj hd=> ?_⟩
     match j,hj,hd with
     | 0,hj,hd=>
       cases hj;cases hd;have e:((es.drop (i*m)).take m).length=min m (es.length-i*m):=by simp
       rw[← e];refine Rd.sl_of (z:=1) (y7 _) (fun e he=>hone e (aai (aaj he))) fun k e he=> ?_
       rw[List.getElem?_take] at he;split at he
       · rw[List.getElem?_drop] at he
         have:=hpt _ e he;rw[show p+i*m*1+k*1=p+(i*m+k)*1 by omega]
         exact this
       · cases he
     |j+1,hj,hd=>cases hd
   · refine htell (some (ad3 b p)) cap _ yt rfl hcap fun i hi=>⟨b,p,rfl,?_⟩
     rw[zg,List.getElem?_range ((wa hm).2 hi),Option.map_some]
end Go.Proofs.YtkdiccgfbfbjlaaGreat
namespace Go.Proofs.YtkdiccgfbfbjlaaGreat
open Go Go.RowKit
theorem ok_known:Ev.Gives Tryz.prog cfg n_dg xk:=by
 obtain⟨c,hc⟩:∃ c,Tryz.f8.body=some c:=Option.isSome_iff_exists.1 (by kernel_rfl)
 refine Ev.gives_of_calls Tryz.func8 (by kernel_rfl) hc fun ds r hr=> ?_
 unfold xk at hr;split at hr
 · cases hr
   refine⟨_,rfl,rfl,fun F args w h1 _ h4=> ?_⟩
   obtain rfl:args= #[]:=by cases args;simp_all
   letI:Me.Gam:=⟨fun _=>(0,0)⟩
   exact(aip w).mono fun e w' ⟨e1,e2⟩=>⟨_,e1,.bool true,e2⟩
 · cases hr
theorem ok_table:Ev.Gives Tryz.prog cfg n_dq xTab:=by
 obtain⟨c,hc⟩:∃ c,Tryz.f147.body=some c:=Option.isSome_iff_exists.1 (by kernel_rfl)
 intro ds r hr F args w h1 h2 _ _;unfold xTab at hr;split at hr
 case h_2=>cases hr
 cases hr;obtain rfl:args= #[]:=by cases args;simp_all
 letI:Me.Gam:=⟨fun _=>(0,0)⟩
 refine .inr ⟨Ev.run_enter Tryz.func147 (by kernel_rfl) hc _ w,(np w).mono ?_⟩
 rintro e W ⟨cs,t,rfl,hg,hsz,hcs,hold,ho1,ho2,ho3⟩
 have hlt:w.heap.size<W.heap.size:=by
   apply Classical.byContradiction;intro c;rw[Array.getElem?_eq_none (by omega)] at hg
   cases hg
 have cellAt:∀ j,j<4096→W.cell? (Ev.ad3 w.heap.size (0+j))=some (.int .i64 (-1)):=fun j hj=>by
   rw[Nat.zero_add];show W.cell? ⟨w.heap.size,j,none⟩=_;rw[cell_of_row W w.heap.size j cs t (0,0) hg];exact hcs j hj
 have hl:(List.replicate 4096 (Ev.D.int .i64 (-1))).length=4096:=List.length_replicate;have hm:∀ e∈List.replicate 4096 (Ev.D.int .i64 (-1)),e= .int .i64 (-1):=fun e he=>(List.mem_replicate.1 he).2
 refine⟨by omega,hold,⟨ho1,ho2,ho3⟩,w.heap.size,0,4096,by rw[hl],Nat.le_refl _,hlt,by rw[hl];exact Nat.le_refl _,fun c e' lo hi hc' hne=> ?_,?_⟩
 · rw[hg] at hc'
   cases hc';exact absurd rfl hne
 refine⟨by decide,fun j hj=>⟨⟨_,cellAt j (by omega)⟩,?_⟩,fun e he=> ?_,fun e he c hc=> ?_,fun i e he j c hc=> ?_⟩
 · rw[Nat.zero_add]
   exact frozen_of_row W w.heap.size j cs t hg
 · rw[hm e he];rfl
 · rw[hm e he] at hc
   obtain rfl:=List.mem_singleton.1 (show c∈[Ev.D.int .i64 (-1)] from hc)
   rfl
 · have hi:i<4096:=by rw[← hl];exact(List.getElem?_eq_some_iff.1 he).1
   rw[hm e (List.mem_of_getElem? he)] at hc;have hj:j=0:=by
    have:j<[Ev.D.int .i64 (-1)].length:=(List.getElem?_eq_some_iff.1 hc).1;simpa using this
   subst hj;cases hc;exact⟨_,by rw[show 0+i*1+0=0+i by omega];exact cellAt i hi,.int _ _⟩
theorem args_two {F:Nat→Prop} {w:World} {args:Array Value} {d e:Ev.D} (h1:args.size=[d,e].length) (h2:∀ (i:Nat) v d',args[i]? =some v→[d,e][i]? =some d'→Ev.Rd F w v d'):∃ v u,args= #[v,u]∧Ev.Rd F w v d∧Ev.Rd F w u e:=by
 obtain⟨l⟩:=args
 match l,h1 with
 | [v,u],_=>exact⟨v,u,rfl,h2 0 v d rfl rfl,h2 1 u e rfl rfl⟩
theorem made83 (a:Option Addr) (len cap:Nat) (n:Int) (hn:1≤n) (w:World):Calls Tryz.prog 83 #[.slice a len cap,.int .i64 n] w fun e w'=>∃ t1 t2,e= .returned (.func (.func 117) #[] #[.pointer (some ⟨w.heap.size,0,none⟩),.pointer (some ⟨w.heap.size+1,0,none⟩)])∧w'=(w.alloc (.cells #[.slice a len cap] t1)).alloc (.cells #[.int .i64 n] t2):=by
 have a0:¬ n<1:=by omega
 go_enter Tryz.func83,Tryz.ntmps83
 go_wp2
 go_ret
 exact⟨rfl,_,_,rfl⟩
theorem made120 (a:Option Addr) (len cap:Nat) (n:Int) (hn:1≤n) (w:World):Calls Tryz.prog 120 #[.slice a len cap,.int .i64 n] w fun e w'=>∃ t1 t2,e= .returned (.func (.func 155) #[] #[.pointer (some ⟨w.heap.size,0,none⟩),.pointer (some ⟨w.heap.size+1,0,none⟩)])∧w'=(w.alloc (.cells #[.slice a len cap] t1)).alloc (.cells #[.int .i64 n] t2):=by
 have a0:¬ n<1:=by omega
 go_enter Tryz.func120,Tryz.ntmps120
 go_wp2
 go_ret
 exact⟨rfl,_,_,rfl⟩
theorem ok_seq {f f1:FuncId} (hent:∀ args w,(callFunc f args).run Tryz.prog w= .ok (.enter f args) w)
  (hm:∀ (a:Option Addr) (len cap:Nat) (n:Int) (_:1≤n) (w:World),Calls Tryz.prog f #[.slice a len cap,.int .i64 n] w fun e w'=>∃ t1 t2,e= .returned (.func (.func f1) #[] #[.pointer (some ⟨w.heap.size,0,none⟩),.pointer (some ⟨w.heap.size+1,0,none⟩)])∧w'=(w.alloc (.cells #[.slice a len cap] t1)).alloc (.cells #[.int .i64 n] t2)):
  Ev.Gives Tryz.prog cfg f (Ev.xSeqN f1):=by
 intro ds r hr F args w h1 h2 _ _;unfold Ev.xSeqN at hr;split at hr
 case h_2=>cases hr
 rename_i es n;split at hr
 case isFalse=>cases hr
 rename_i hn;cases hr;obtain⟨v,u,rfl,hv,hu⟩:=args_two h1 h2;cases hu.int_inv;have hs:∃ a len cap,v= .slice a len cap:=by cases hv<;>exact⟨_,_,_,rfl⟩
 obtain⟨a,len,cap,rfl⟩:=hs;refine .inr ⟨hent _ w,(hm a len cap n hn w).mono fun e w' ⟨t1,t2,e1,e2⟩=> ?_⟩
 subst e1;subst e2;have hB:Below w.heap.size w ((w.alloc (.cells #[.slice a len cap] t1)).alloc (.cells #[.int .i64 n] t2)):=((Below.refl _ _).alloc (Nat.le_refl _) _).alloc (by simp) _
 have c1:((w.alloc (.cells #[.slice a len cap] t1)).alloc (.cells #[.int .i64 n] t2)).cell? (Ev.ad3 w.heap.size 0)=some (.slice a len cap):=by
  have h0:(w.alloc (.cells #[.slice a len cap] t1)).cell? ⟨w.heap.size,0,none⟩=some (.slice a len cap):=by
    rw[World.cell?_alloc_new];rfl
  exact(World.grownBy_alloc _ _ none).cell h0 (by simp)
 have c2:((w.alloc (.cells #[.slice a len cap] t1)).alloc (.cells #[.int .i64 n] t2)).cell? (Ev.ad3 (w.heap.size+1) 0)=some (.int .i64 n):=by
  have e:w.heap.size+1=(w.alloc (.cells #[.slice a len cap] t1)).heap.size:=by simp
  rw[show Ev.ad3 (w.heap.size+1) 0=⟨w.heap.size+1,0,none⟩ from rfl,e,World.cell?_alloc_new]
  rfl
 refine⟨hB.size,fun b hb=>hB.block b hb,⟨hB.os,hB.tape,hB.output⟩,[.pointer (some ⟨w.heap.size,0,none⟩),.pointer (some ⟨w.heap.size+1,0,none⟩)],[.ptr (.sl es),.ptr (.int .i64 n)],rfl,rfl,rfl,fun i u e h3 h4=> ?_⟩
 match i,h3,h4 with
 | 0,h3,h4=>
  cases h3;cases h4;refine .ptr w.heap.size 0 (.sl es) (fun _=> .slice a len cap) (by simp[Ev.D.cells,Ev.D.isCell]) (fun j c hj=> ?_) (fun j c hj=> ?_)
  · match j,hj with
    |0,hj=>exact⟨.inr (Nat.le_refl _),c1⟩
  · match j,hj with
    | 0,hj=>
     cases hj;exact hv.mono fun b o u hb hu=>⟨.inl hb,by rw[Ev.cell_of_heap (hB.block b (by simpa using World.block_lt_of_cell? _ _ hu))];exact hu⟩
 | 1,h3,h4=>
  cases h3;cases h4;refine .ptr (w.heap.size+1) 0 (.int .i64 n) (fun _=> .int .i64 n) (by simp[Ev.D.cells,Ev.D.isCell]) (fun j c hj=> ?_) (fun j c hj=> ?_)
  · match j,hj with
    |0,hj=>exact⟨.inr (by omega),c2⟩
  · match j,hj with
    |0,hj=>cases hj;exact .int _ _
theorem ok_bytes:Ev.Gives Tryz.prog cfg n_cy (Ev.xSeqN n_db):=by
 obtain⟨c,hc⟩:∃ c,Tryz.f83.body=some c:=Option.isSome_iff_exists.1 (by kernel_rfl)
 exact ok_seq (fun args w=>Ev.run_enter Tryz.func83 (by kernel_rfl) hc args w) made83
theorem ok_ints:Ev.Gives Tryz.prog cfg n_cu (Ev.xSeqN n_da):=by
 obtain⟨c,hc⟩:∃ c,Tryz.f120.body=some c:=Option.isSome_iff_exists.1 (by kernel_rfl)
 exact ok_seq (fun args w=>Ev.run_enter Tryz.func120 (by kernel_rfl) hc args w) made120
