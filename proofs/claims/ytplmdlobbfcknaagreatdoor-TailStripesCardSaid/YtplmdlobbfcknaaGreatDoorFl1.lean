import Derived.Test.YtplmdlobbfcknaaGreatDoorL9
import Derived.Test.YtplmdlobbfcknaaGreatDoorOrc
import Derived.Test.YtplmdlobbfcknaaGreatDoorChecked
import Derived.Maps.AppendAt
import Derived.OwnWalk
import Derived.Laws.AppendOwn
import Derived.Laws.OwnMore
import Derived.RangeFuncBox
import Derived.Shelf.Abstract
import Derived.WalkKit
import Derived.RegionTactic
import Derived.Deep.LoopGhost
import Derived.Deep.Draws
import Derived.Deep.QuietTactic
import Derived.Deep.DeepMust
namespace Go.Proofs.YtplmdlobbfcknaaGreatDoor
open Go Go.Ev Go.RowKit
theorem sn {P:Program} (w:World) (base:Nat) (t ty e:TypeId) (i:TypeInfo) (z:Value) (size bytes:Nat) (ht:P.underlying t=some (.slice e)) (hi:P.info? e=some i) (hz:i.zero=some z)
  (hsize:i.size=size) (hby:i.bytes=bytes) (hzs:z.cells.size=size) (hsz:0<size) (ad:Option Addr)
  (a:Addr) (c:Nat) (news:List Value) (hl:news.length=1*size) (hnews:∀ j u,news[j]? =some u→w.cell? (a.add j)=some u) (h1:∀ u∈news,u.oneCell'=true)
  (hbytes:(0+1)*bytes≤140737488355328) (hbase:base≤w.heap.size):
  ∃ v' w',(Builtin.append_ #[t,t] ty #[.slice ad 0 0,.slice (some a) 1 c]).run P w= .ok v' w'∧w'.ownsRow base e size v' (0+1) ([]++news)∧w.grownBy w' none:=by
 cases ad with
 | none=>
  obtain⟨v',w',h2,h3,h4,_,h5⟩:=run_append_own_at (P:=P) w base t ty e i z size bytes ht hi hz hsize hby hzs hsz _ 0 [] (World.ownsRow_nil w base e size) a 1 c news hl hnews h1 (by unfold maxLen;omega) hbytes hbase
  exact⟨v',w',h2,h3,h4⟩
 | some ad=>
  subst hsize;subst hby;have hr:=run_append_grow (P:=P) w t ty e i z ht hi hz ad 0 0 [] yl yl a 1 c news hl hnews yj yj (growslice_fits yj hbytes);refine⟨_,_,hr,⟨by simpa using hl,.inr ⟨w.heap.size,_,_,rfl,hbase,heap_alloc_new w.drew _,grownCap_ge w (0+1) 0 e,grownCap_le_maxLen w (0+1) 0 e (by unfold maxLen;omega),?_,?_⟩⟩,⟨rfl,rfl,rfl,by simp,fun k hk _=>(Array.getElem?_push_lt hk).trans (y7 hk).symm⟩⟩
  · have hge:=grownCap_ge w (0+1) 0 e
    simp only[Array.size_append,List.size_toArray,List.length_nil,size_zeroCells,hzs,hl,← zh];rw[Nat.zero_add,← zh]
    congr 1
    omega
  · simp only[Array.toList_append,List.nil_append]
    rw[show(0+1)*i.size=news.length by rw[hl]]
    exact List.take_left
theorem nj {P:Program} (w:World) {ops:Array Oper} {rest:List Oper} {o:Oper} {a:Act} {Q:Exit→Act→World→Prop} (hgd:o.guard=none) (s x:Operand) (t:TypeId)
  (ho:o.op= .call {callee:= .builtin .append,args:= #[s,x],argTypes:= #[t,t]})
  (base:Nat) (e:TypeId) (i:TypeInfo) (z:Value) (size bytes:Nat) (ht:P.underlying t=some (.slice e)) (hi:P.info? e=some i) (hz:i.zero=some z)
  (hsize:i.size=size) (hby:i.bytes=bytes) (hzs:z.cells.size=size) (hsz:0<size) (as_:Option Addr) (hs:a.eval s= .slice as_ 0 0)
  (ad:Addr) (c:Nat) (news:List Value) (hx:a.eval x= .slice (some ad) 1 c) (hl:news.length=1*size) (hnews:∀ j u,news[j]? =some u→w.cell? (ad.add j)=some u) (h1:∀ u∈news,u.oneCell'=true)
  (hbytes:(0+1)*bytes≤140737488355328) (hbase:base≤w.heap.size)
  (h:∀ v' w',w'.ownsRow base e size v' (0+1) ([]++news)→w.grownBy w' none→wpList P ops Q rest (a.put o.dst v') w'):
  wpList P ops Q (o::rest) a w:=by
 refine wpList_plain hgd fun K hK=> ?_
 obtain⟨v',w',hr,h2,h3⟩:=sn (P:=P) w base t o.type e i z size bytes ht hi hz hsize hby hzs hsz as_ ad c news hl hnews h1 hbytes hbase;unfold Oper.wp execOp;simp only[ho,resolve,invoke,builtin,Sem.run_bind,Sem.run_pure,Result.andThen_ok,List.map_toArray,List.map_cons,List.map_nil,hs,hx,hr];exact hK _ _ (h v' w' h2 h3)
theorem a09 (w:World) (xs:List Value) (t:TypeId) (n:Nat) (hn:w.heap.size=n):∀ j u,xs[j]? =some u→(w.alloc (.cells xs.toArray t)).cell? ((⟨n,0,none⟩:Addr).add j)=some u:=by
 subst hn;intro j u hj;cases j with
 |zero=>simpa[Addr.add] using hj
 |succ j=>simpa[Addr.add] using hj
theorem atm {w:World} {base:Nat} {e:TypeId} {size:Nat} {v:Value} {n:Nat} {xs:List Value} (h:w.ownsRow base e size v n xs) (hn:n≠0):∃ g c,v= .slice (some ⟨g,0,none⟩) n c:=by
 rcases h.2 with⟨_,h0⟩|⟨g,cap,cur,rfl,_⟩
 · exact absurd h0 hn
 · exact⟨_,_,rfl⟩
set_option maxRecDepth 100000 in
set_option maxHeartbeats 400000 in
theorem arv (W:World) (a0 ka kb:Option Addr) (kc kd:Nat) (k a b c p q:Int):
  Calls Tryz.prog 35 #[.slice a0 0 0,.agg #[.int .i64 k,.slice kb 0 kd,.slice ka 0 kc,.int .i64 a,.int .i64 b,.int .i64 c],.int .i64 p,.int .i64 q] W fun e W'=>∃ g cap,e= .returned (.slice (some ⟨g,0,none⟩) 1 cap)∧
   W'.ownsRow W.heap.size 80 9 (.slice (some ⟨g,0,none⟩) 1 cap) 1 [.int .i64 k,.slice kb 0 kd,.slice ka 0 kc,.int .i64 a,.int .i64 b,.int .i64 c,.slice none 0 0,.int .i64 p,.int .i64 q]∧W.grownBy W' none:=by
 obtain⟨iN,hiN,hzN0,hzN1,hzN2⟩:=info_parts (P:=Tryz.prog) (e:=80) (z:= .agg #[.int .i64 0,.slice none 0 0,.slice none 0 0,.int .i64 0,.int .i64 0,.int .i64 0,.slice none 0 0,.int .i64 0,.int .i64 0]) (size:=9) (bytes:=120) yk;have hone:∀ u∈[Value.int .i64 k,.slice kb 0 kd,.slice ka 0 kc,.int .i64 a,.int .i64 b,.int .i64 c,.slice none 0 0,.int .i64 p,.int .i64 q],u.oneCell'=true:=by
  intro u hu;simp only[zb,zn,or_false] at hu;rcases hu with rfl|rfl|rfl|rfl|rfl|rfl|rfl|rfl|rfl<;>rfl
 go_enter Tryz.func35,Tryz.ntmps35
 go_wp2_with (first
  | (at_builtin;refine nj _ rfl _ _ 68 rfl W.heap.size 80 iN _ 9 120 rfl hiN hzN0 hzN1 hzN2 rfl ym _ rfl ⟨W.heap.size+1,0,none⟩ 1 [.int .i64 k,.slice kb 0 kd,.slice ka 0 kc,.int .i64 a,.int .i64 b,.int .i64 c,.slice none 0 0,.int .i64 p,.int .i64 q] rfl rfl (a09 _ _ _ _ yl) hone yj (by simp;omega) ?_;intro v' w1 hown1 hgrow1)
  |go_in)
 obtain⟨g,cap,e⟩:=atm hown1 ym;subst e;have hbox:w1.cell? ⟨W.heap.size,2,none⟩=some (.slice ka 0 kc):=by
  refine World.grownBy.cell ((World.grownBy_alloc _ _ none).trans hgrow1) ?_ yl;rw[World.cell?_alloc_new];rfl
 replace hown1:Aside _:=hown1
 have hg:Aside (W.grownBy w1 none):=(World.grownBy_alloc W _ _).trans ((World.grownBy_alloc _ _ _).trans hgrow1);clear hgrow1
 go_loopw [0,10] (fun v i wl=>v= .slice (some ⟨g,0,none⟩) (0+1) cap∧i= .int .i64 0∧wl=w1) (fun _ i _=>1)
 case atStart=>exact⟨rfl,rfl,rfl⟩
 case round=>
  obtain⟨rfl,rfl,rfl⟩:=hrel
  go_wp2
  go_ret
  exact⟨g,cap,rfl,hown1.out,hg.out⟩
theorem a10 {F:Nat→Prop} {w:World} {args:Array Value} {d e f g:D} (h1:args.size=[d,e,f,g].length) (h2:∀ (i:Nat) v d',args[i]? =some v→[d,e,f,g][i]? =some d'→Rd F w v d'):∃ v u x y,args= #[v,u,x,y]∧Rd F w v d∧Rd F w u e∧Rd F w x f∧Rd F w y g:=by
 obtain⟨l⟩:=args
 match l,h1 with
 | [v,u,x,y],_=>exact⟨v,u,x,y,rfl,h2 0 v d rfl rfl,h2 1 u e rfl rfl,h2 2 x f rfl rfl,h2 3 y g rfl rfl⟩
theorem xw {F:Nat→Prop} {w:World} {v:Value} (h:Rd F w v (.sl [])):∃ a c,v= .slice a 0 c:=by
 cases h with
 |slA a c=>exact⟨_,_,rfl⟩
 |sl b o len cap z _ vs hl=>obtain rfl:0=len:=hl;exact⟨_,_,rfl⟩
theorem ty_inv {F:Nat→Prop} {w:World} {v:Value} {k a b c:Int} (h:Rd F w v (.agg [.int .i64 k,.sl [],.sl [],.int .i64 a,.int .i64 b,.int .i64 c])):∃ ka kc kb kd,v= .agg #[.int .i64 k,.slice kb 0 kd,.slice ka 0 kc,.int .i64 a,.int .i64 b,.int .i64 c]:=by
 cases h with
 | agg vs cs hl hcc hr=>
  match vs,hl with
  | [c0,c1,c2,c3,c4,c5],_=>
   obtain rfl:=(hr 0 _ _ rfl rfl).int_inv;obtain⟨x1,y1,rfl⟩:=xw (hr 1 _ _ rfl rfl);obtain⟨x2,y2,rfl⟩:=xw (hr 2 _ _ rfl rfl);obtain rfl:=(hr 3 _ _ rfl rfl).int_inv;obtain rfl:=(hr 4 _ _ rfl rfl).int_inv;obtain rfl:=(hr 5 _ _ rfl rfl).int_inv;exact⟨_,_,_,_,rfl⟩
theorem ara {cfg:Cfg}:Gives Tryz.prog cfg 35 asf:=by
 obtain⟨c,hc⟩:∃ c,Tryz.f35.body=some c:=y5.1 yk
 intro ds r hr F args w h1 h2 _ _;unfold asf at hr;split at hr
 case h_2=>cases hr
 rename_i k a b c p q;cases hr;obtain⟨v0,v1,v2,v3,rfl,r0,r1,r2,r3⟩:=a10 h1 h2;obtain⟨ad,rfl⟩:=r0.nilS_inv;obtain rfl:=r2.int_inv;obtain rfl:=r3.int_inv;obtain⟨ka,kc,kb,kd,rfl⟩:=ty_inv r1;refine .inr ⟨run_enter Tryz.func35 yk hc _ w,(arv w ad ka kb kc kd k a b c p q).mono ?_⟩
 rintro e W' ⟨g,cap,rfl,hrow,hg⟩
 have hlt:=hrow.lt g rfl;have hroom:=hrow;rcases hrow.2 with⟨h',_⟩|⟨g',cap',cur,h',_,hgc,hnc,_,hcs,_⟩
 · cases h'
 cases h';refine⟨hg.size,fun b hb=>hg.block b hb yl,⟨hg.os,hg.tape,hg.output⟩,g,0,cap,rfl,hlt.1,hlt.2,hnc,fun c e' lo hi hc hne=> ?_,?_⟩
 · rw[hgc] at hc
   cases hc;exact absurd rfl hne
 refine⟨by decide,fun j hj=>⟨⟨cur[j]'(by omega),?_⟩,?_⟩,fun e he=> ?_,fun e he d hc=> ?_,fun i e he j d hc=> ?_⟩
 · rw[Nat.zero_add]
   show W'.cell? ⟨g,j,none⟩=_;rw[cell_of_row W' g j cur _ (0,0) hgc,y7 yj]
 · rw[Nat.zero_add]
   exact frozen_of_row W' g j cur _ hgc
 · obtain rfl:=zx.1 he
   rfl
 · obtain rfl:=zx.1 he
   simp only[D.cells,zb,zn,or_false] at hc;rcases hc with rfl|rfl|rfl|rfl|rfl|rfl|rfl|rfl|rfl<;>rfl
 · match i,he with
   | 0,he=>
    cases he;have hcell:∀ j,j<9→W'.cell? (ad3 g (0+0*9+j))=[Value.int .i64 k,.slice kb 0 kd,.slice ka 0 kc,.int .i64 a,.int .i64 b,.int .i64 c,.slice none 0 0,.int .i64 p,.int .i64 q][j]? :=fun j hj=>by
     rw[show 0+0*9+j=j by omega]
     exact hroom.cellAt _ yj
    have hj:j<9:=(yo.1 hc).1;refine⟨_,(hcell j hj).trans (yp hj),?_⟩
    match j,hj,hc with
    |0,_,hc=>cases hc;exact .int _ _
    |1,_,hc=>cases hc;exact .slA _ _
    |2,_,hc=>cases hc;exact .slA _ _
    |3,_,hc=>cases hc;exact .int _ _
    |4,_,hc=>cases hc;exact .int _ _
    |5,_,hc=>cases hc;exact .int _ _
    |6,_,hc=>cases hc;exact .slA _ _
    |7,_,hc=>cases hc;exact .int _ _
    |8,_,hc=>cases hc;exact .int _ _
   |i+1,he=>simp at he
