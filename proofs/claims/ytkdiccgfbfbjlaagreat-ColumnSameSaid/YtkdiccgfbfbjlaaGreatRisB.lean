import Derived.Test.YtkdiccgfbfbjlaaGreatCode
import Derived.Test.YtkdiccgfbfbjlaaGreatShelf
import Derived.Test.YtkdiccgfbfbjlaaGreatL10
import Derived.Test.YtkdiccgfbfbjlaaGreatL1
import Derived.Shelf.RegionOpenPlain
import Derived.WalkKit
import Derived.RegionTactic
import Derived.Deep.LoopGhost
import Derived.Deep.Draws
import Derived.Deep.QuietTactic
import Derived.Lib.Walk
import Derived.Lib.SliceRun
import Derived.Sort.WalkB12
set_option linter.unusedSectionVars false
namespace Go.Proofs.YtkdiccgfbfbjlaaGreat
open Go Go.Ev Go.RowKit Go.Lib Go.Sort
variable [Sh]
set_option maxRecDepth 100000
theorem qo {F:Nat→Prop} {w:World} {v:Value} {d:D} (h:Rd F w v d) (n:Nat):Rd F (w.drewN n) v d:=h.mono fun b o u hF hc=>⟨hF,hc⟩
set_option maxHeartbeats 1000000 in
theorem VK {F:Nat→Prop} {v u:Value} {a b:Tx} {w:World} (hv:Rd F w v (BA a)) (hu:Rd F w u (BA b)):Calls Tryz.prog 128 #[v,u] w fun e w'=>e= .returned (.bool (a==b))∧w'=w:=by
 have h1:=rn (P:=Tryz.prog) hv Tryz.underlying65 Tryz.underlying5 Tryz.underlying9;have h2:=rn (P:=Tryz.prog) hu Tryz.underlying65 Tryz.underlying5 Tryz.underlying9;clear hv hu
 go_enter Tryz.func128,Tryz.ntmps128
 go_wp2
 go_ret
 exact⟨rfl,rfl⟩
set_option maxHeartbeats 1000000 in
theorem bm4 {F:Nat→Prop} {v u:Value} {a b:Tx} {w:World} (hv:Rd F w v (BA a)) (hu:Rd F w u (BA b)):Calls Tryz.prog 131 #[v,u] w fun e w'=>e= .returned (.int .i64 (Ed a b))∧w'=w:=by
 have h1:=alu (P:=Tryz.prog) hv hu;clear hv hu
 go_enter Tryz.func131,Tryz.ntmps131
 go_wp2
 rw[run_callFunc_extern Tryz.func165 abv abv abv (e:=Extern.BytealgCompare.compare) abv,h1];simp only[Result.andThen];rw[Oper.upon_value]
 go_wp2
 go_ret
 exact⟨rfl,rfl⟩
theorem sq (p:Option Addr) (n c:Nat) (W:World):LenM Tryz.prog 230 (.slice p n c) n W:=by
 unfold LenM
 go_enter Tryz.func230,Tryz.ntmps230
 go_wp2
 go_ret
 exact⟨rfl,0,rfl⟩
set_option maxHeartbeats 2000000 in
theorem bbg {F:Nat→Prop} (A3 off c size:Nat) (W:World) (x y:Value) (a b:Tx) (i j:Nat) (hi:i<size) (hj:j<size) (hsz:size<4611686018427387904)
  (ci:W.cell? ⟨A3,off+i,none⟩=some x) (cj:W.cell? ⟨A3,off+j,none⟩=some y) (hx:Rd F W x (BA a)) (hy:Rd F W y (BA b)):
  Calls Tryz.prog 231 #[.slice (some ⟨A3,off,none⟩) size c,.int .i64 i,.int .i64 j] W fun e w'=>e= .returned (.bool (Op.bytesLess a b))∧∃ q,w'=W.drewN q:=by
 have hc:∀ n,Calls Tryz.prog 131 #[x,y] (W.drewN n) fun e w'=>e= .returned (.int .i64 (Ed a b))∧w'=W.drewN n:=fun n=>bm4 (qo hx n) (qo hy n)
 have hl:Op.bytesLess a b=decide (Ed a b<0):=by
  unfold Ed;cases Op.bytesLess a b
  · cases Op.bytesLess b a<;>rfl
  · rfl
 rw[hl];clear hx hy hl;generalize Ed a b=z at hc ⊢
 go_enter Tryz.func231,Tryz.ntmps231
 go_wp2
 go_quiet (first| (go_at_call 131;exact Calls.quiet_of_same (hc _)))
 go_wp2
 go_ret
 exact⟨rfl,nq,rfl⟩
set_option maxHeartbeats 2000000 in
theorem baq (A3 off c size:Nat) (W:World) (p q:Option Addr) (m m' d d':Nat) (i j:Nat) (hi:i<size) (hj:j<size) (_hsz:size<4611686018427387904)
  (ci:W.cell? ⟨A3,off+i,none⟩=some (.slice p m d)) (cj:W.cell? ⟨A3,off+j,none⟩=some (.slice q m' d')) (fi:W.frozen? ⟨A3,off+i,none⟩=false) (fj:W.frozen? ⟨A3,off+j,none⟩=false):
  Calls Tryz.prog 232 #[.slice (some ⟨A3,off,none⟩) size c,.int .i64 i,.int .i64 j] W fun e w'=>e= .returned (.tuple #[])∧∃ n,w'=((W.setCell ⟨A3,off+i,none⟩ (.slice q m' d')).setCell ⟨A3,off+j,none⟩ (.slice p m d)).drewN n:=by
 obtain⟨v',hy'⟩:=cell?_setCell_some (w:=W) (p:=⟨A3,off+i,none⟩) (x:= .slice q m' d') (q:=⟨A3,off+j,none⟩) cj
 go_enter Tryz.func232,Tryz.ntmps232
 go_wp2
 go_region
 all_goals (try go_wp2)
 all_goals go_end0
 all_goals exact⟨rfl,1,rfl⟩
end Go.Proofs.YtkdiccgfbfbjlaaGreat
namespace Go.Proofs.YtkdiccgfbfbjlaaGreat
open Go Go.Ev Go.RowKit Go.Lib Go.Sort
variable [Sh]
set_option maxRecDepth 100000
def stays (T:Nat→Tx) (d:Array Nat) (m:Nat):Bool:=m==0||T d[m]! !=T d[m-1]!
def cpT (T:Nat→Tx) (d:Array Nat):Nat→List Nat
 |0=>[]
 |m+1=>cpT T d m++(if stays T d m then[d[m]!] else[])
structure CpI (T:Nat→Tx) (d:Array Nat) (m k:Nat) (dk:Array Nat):Prop where
 size:dk.size=d.size
 len:(cpT T d m).length=k
 lt:k<m
 low:∀ j,j<k→(cpT T d m)[j]? =some dk[j]!
 high:∀ j,k≤j→dk[j]! =d[j]!
theorem aq4 {T:Nat→Tx} {d:Array Nat}:∀ {m:Nat},(∀ j,j<m→stays T d j=true)→(cpT T d m).length=m∧∀ j,j<m→(cpT T d m)[j]? =some d[j]!
 |0,_=>⟨rfl,fun j h=>by omega⟩
 | m+1,h=>by
  obtain⟨h1,h2⟩:=aq4 (T:=T) (d:=d) (m:=m) fun j hj=>h j abu
  rw[cpT,if_pos (h m abu)];refine⟨by simp[h1],fun j hj=> ?_⟩
  by_cases e:j<m
  · rw[ada abu];exact h2 j e
  · have:j=m:=abu
    subst this;rw[List.getElem?_append_right abu,h1,Nat.sub_self];rfl
theorem CpI.start {T:Nat→Tx} {d:Array Nat} {k:Nat} (h:∀ j,j<k→stays T d j=true) (hk:stays T d k=false):CpI T d (k+1) k d:=by
 obtain⟨h1,h2⟩:=aq4 h;have e:cpT T d (k+1)=cpT T d k:=by rw[cpT,hk];simp
 exact⟨rfl,by rw[e];exact h1,by omega,fun j hj=>by rw[e];exact h2 j hj,fun _ _=>rfl⟩
theorem CpI.skip {T:Nat→Tx} {d dk:Array Nat} {m k:Nat} (h:CpI T d m k dk) (hs:stays T d m=false):CpI T d (m+1) k dk:=by
 have e:cpT T d (m+1)=cpT T d m:=by rw[cpT,hs];simp
 exact⟨h.size,by rw[e];exact h.len,by have:=h.lt;omega,fun j hj=>by rw[e];exact h.low j hj,h.high⟩
theorem CpI.Ac {T:Nat→Tx} {d dk:Array Nat} {m k:Nat} (h:CpI T d m k dk) (hm:m<d.size) (hs:stays T d m=true):CpI T d (m+1) (k+1) (dk.setIfInBounds k d[m]!):=by
 have hl:=h.lt;have hz:=h.size;have e:cpT T d (m+1)=cpT T d m++[d[m]!]:=by rw[cpT,hs];simp
 refine⟨by simpa using h.size,by rw[e,aci,h.len];rfl,by omega,fun j hj=> ?_,fun j hj=> ?_⟩
 · rw[e]
   by_cases hjk:j<k
   · rw[ada (by rw[h.len];exact hjk),getElem!_set_other _ _ _ _ abu]
     exact h.low j hjk
   · have:j=k:=abu
     subst this;rw[List.getElem?_append_right (by rw[h.len];omega),h.len,Nat.sub_self,getElem!_set_same _ _ _ abu]
     rfl
 · rw[getElem!_set_other _ _ _ _ abu]
   exact h.high j abu
theorem aa9 (T:Nat→Tx) (d:Array Nat):∀ j,j<1→stays T d j=true:=fun j hj=>by
 have:j=0:=abu;subst this;rfl
theorem aa8 {T:Nat→Tx} {d:Array Nat} {m:Nat} (h:(T d[m]! ==T d[m-1]!)=false):stays T d m=true:=by
 unfold stays;simp only[bne,h];simp
theorem aba {T:Nat→Tx} {d:Array Nat} {m:Nat} (hm:0<m) (h:(T d[m]! ==T d[m-1]!)=true):stays T d m=false:=by
 unfold stays;simp only[bne,h];simp;omega
theorem lj (b:Nat) (w:World):BR b w w:=⟨rfl,fun _ _=>rfl,fun _ _=>rfl,fun _ u h=>⟨u,h⟩,.refl _,id⟩
theorem mb {b:Nat} {w w':World} (h:BR b w w') (n:Nat):BR b w (Sort.ahead w' n):=⟨h.size,h.other,h.Gb,h.Ac,h.io,h.Bo⟩
theorem ma {b:Nat} {w w' w'':World} (h:BR b w w') (k:BR b w' w''):BR b w w'':=
 ⟨k.size.trans h.size,fun b' hb=>(k.other b' hb).trans (h.other b' hb),fun o hu=>let⟨u,hu⟩:=hu;(k.Gb o (h.Ac o u hu)).trans (h.Gb o ⟨u,hu⟩),fun o u hu=>let⟨u',h'⟩:=h.Ac o u hu;k.Ac o u' h',h.io.trans k.io,fun z=>k.Bo (h.Bo z)⟩
theorem py {α:Type} [Inhabited α] (enc:α→Value) (w:World) (A3 off:Nat) (d:Array α):BR A3 w (putRow enc w A3 off d):=by
 refine⟨size_putRow enc w A3 off d,fun b hb=> ?_,fun o _=>frozen?_putRow enc w A3 off d _,fun o u hu=> ?_,⟨rfl,rfl,rfl⟩,fun hz c e lo hi hc Ai=> ?_⟩
 · simp[putRow,mapBlock,Array.getElem?_modify,Ne.symm hb]
 · obtain⟨c,e,fr,hb,hc⟩:=cells_of_cell? hu
   unfold putRow;rw[cell?_mapBlock w A3 _ _ hb];have hlt:=(act.1 hc).1;exact⟨_,acm (by simpa[putCells] using hlt)⟩
 · simp only[putRow,mapBlock,Array.getElem?_modify,if_true] at hc
   cases hb:w.heap[A3]? with
   |none=>rw[hb] at hc;cases hc
   | some ob=>
    rw[hb] at hc;cases ob with
    | cells c0 e0 fr0=>
     simp only[Option.map_some,onCells,Option.some.injEq,Obj.cells.injEq] at hc;obtain⟨h1,h2,h3⟩:=hc;have:=hz c0 e0 lo hi (by rw[hb,h3]) Ai
     rw[← h1];simpa[putCells] using this
    |_=>simp[onCells] at hc
theorem alz {F:Nat→Prop} {w w':World} {A3:Nat} (h:BR A3 w w') (hF:∀ b,F b→b≠A3) {v:Value} {x:D} (hr:Rd F w v x):Rd F w' v x:=
 hr.mono fun b o u hb hc=>⟨hb,by rw[h.cell (hF b hb)];exact hc⟩
theorem pt {α:Type} [Inhabited α] (enc:α→Value) (w:World) (q n A3 off:Nat) (d:Array α):(putRow enc (Sort.ahead w q) A3 off d).drewN n=putRow enc (Sort.ahead w (q+n)) A3 off d:=by
 show({putRow enc (Sort.ahead w q) A3 off d with drawn:=w.drawn+q+n}:World)={putRow enc (Sort.ahead w (q+n)) A3 off d with drawn:=w.drawn+(q+n)};rw[Nat.add_assoc];rfl
theorem bct {α:Type} [Inhabited α] (enc:α→Value) {w wr:World} {q n A3 off:Nat} {dk:Array α} {i:Nat} (hi:i<dk.size) (hw:wr=putRow enc (Sort.ahead w q) A3 off dk) (x:α) {v:Value} (hv:enc x=v):
  (wr.drewN n).setCell ⟨A3,off+i,none⟩ v=putRow enc (Sort.ahead w (q+n)) A3 off (dk.setIfInBounds i x):=by
 subst hw hv;rw[pt,putRow_set enc _ A3 off dk i x hi]
set_option maxHeartbeats 8000000 in
set_option maxRecDepth 1000000 in
theorem aq5 {F:Nat→Prop} (E:Nat→Value) (T:Nat→Tx) (A3 off cap:Nat) (d:Array Nat) (w:World) (hS:∀ i,∃ p m c,E i= .slice p m c) (hF:∀ b,F b→b≠A3) (hR:∀ i,Rd F w (E i) (BA (T i)))
   (hH:Holds E w A3 off d) (hsz:d.size≤9223372036854775807) (Ad:d.size≤cap):
   Calls Tryz.prog 127 #[.slice (some ⟨A3,off,none⟩) d.size cap,.func (.func 128) #[] #[]] w fun e w'=>e= .returned (.slice (some ⟨A3,off,none⟩) (cpT T d d.size).length cap)∧BR A3 w w'∧∀ j x,(cpT T d d.size)[j]? =some x→w'.cell? ⟨A3,off+j,none⟩=some (E x):=by
 have same:∀ q,(∀ j,j<d.size→stays T d j=true)→(cpT T d d.size).length=d.size∧BR A3 w (w.drewN q)∧∀ j x,(cpT T d d.size)[j]? =some x→(w.drewN q).cell? ⟨A3,off+j,none⟩=some (E x):=by
   intro q hall;obtain⟨h1,h2⟩:=aq4 hall;refine⟨h1,mb (lj A3 w) q,fun j x hj=> ?_⟩
   have hlt:=(ab1.1 hj).1;rw[h2 j abu] at hj;cases hj;exact(hH j abu).1
 have EQ:∀ (W:World) (i k:Nat),BR A3 w W→∀ n,Calls Tryz.prog 128 #[E i,E k] (W.drewN n) fun e w'=>e= .returned (.bool (T i==T k))∧w'=W.drewN n:=fun W i k hO n=>
   VK (qo (alz hO hF (hR i)) n) (qo (alz hO hF (hR k)) n)
 have HS:Aside (∀ q,(∀ j,j<d.size→stays T d j=true)→(cpT T d d.size).length=d.size∧BR A3 w (w.drewN q)∧∀ j x,(cpT T d d.size)[j]? =some x→(w.drewN q).cell? ⟨A3,off+j,none⟩=some (E x)):=same
 have HE:Aside (∀ (W:World) (i k:Nat),BR A3 w W→∀ n,Calls Tryz.prog 128 #[E i,E k] (W.drewN n) fun e w'=>e= .returned (.bool (T i==T k))∧w'=W.drewN n):=EQ
 have SS:Aside (∀ i,∃ p m c,E i= .slice p m c):=hS
 clear same EQ hR hS;by_cases h2:d.size<2
 · have HH:Aside (Holds E w A3 off d):=hH
   clear hH
   go_enter Tryz.func127,Tryz.ntmps127
   go_wp2
   go_ret
   obtain⟨e1,e2⟩:=HS.out 0 (fun j hj=>aa9 T d j abu)
   exact⟨by rw[e1];rfl,e2⟩
 · go_enter Tryz.func127,Tryz.ntmps127
   go_wp2
   go_loopg [5] d.size (fun g s5 wr=>∃ k q:Nat,1≤k∧k≤d.size∧d.size-k≤g∧s5= .int .i64 k∧wr=w.drewN q∧∀ j,j<k→stays T d j=true)
   case atStart=>exact⟨1,0,ab5 _,by omega,by omega,rfl,rfl,aa9 T d⟩
   case round=>
    obtain⟨k,q,hk1,hk,hg,rfl,rfl,hall⟩:=hrel;by_cases hlt:k<d.size
    · obtain⟨c1,f1⟩:=hH k hlt
      obtain⟨m,hm⟩:∃ m,m=k-1:=⟨_,rfl⟩
      have hml:m<d.size:=abu;obtain⟨c0,f0⟩:=hH m hml;have k5:IntKind.i64.wrap ((k:Int)-1)=(m:Int):=by rw[bd abu abu];omega
      have A:Aside (∀ j,j<k→stays T d j=true):=hall
      have HH:Aside (Holds E w A3 off d):=hH;have hq:=HE.out w d[k]! d[m]! (lj A3 w);clear hall hH;generalize hx:E d[k]! =x at c1 hq;generalize hy:E d[m]! =y at c0 hq;clear hx hy;generalize hb:(T d[k]! ==T d[m]!)=b at hq;have B:Aside ((T d[k]! ==T d[k-1]!)=b):=by rw[← hm];exact hb
      clear hb hm;cases b with
      | true=>
       go_wp2
       go_quiet (first| (go_at_call 128;exact(hq _).mono fun _ _ ⟨h1,h2⟩=>⟨h1,_,h2⟩))
       go_wp2
       clear c0 c1 f0 f1 hq
       go_loopg [5,7] d.size (fun g s5 s7 wr=>∃ (kk k2 q2:Nat) (dk:Array Nat),s5= .int .i64 kk∧s7= .int .i64 k2∧1≤k2∧k+k2≤d.size∧d.size-(k+k2)≤g∧wr=putRow E (Sort.ahead w q2) A3 off dk∧CpI T d (k+k2) kk dk)
       case atStart=>exact⟨k,1,q+nq,d,rfl,rfl,ab5 _,by omega,by omega,(putRow_self E (Sort.ahead w (q+nq)) A3 off d (holds_ahead E w (q+nq) A3 off d HH.out)).symm,CpI.start A.out (aba abu B.out)⟩
       case round=>
        obtain⟨kk,k2,q2,dk,rfl,rfl,h1,hle,hg2,hwr,hI⟩:=hrel;have hkk:=hI.lt;have hds:=hI.size;have hHk:Holds E wr A3 off dk:=by rw[hwr];exact holds_putRow E _ A3 off d dk (holds_ahead E w q2 A3 off d HH.out) hds
        have hO:BR A3 w wr:=by rw[hwr];exact ma (mb (lj A3 w) q2) (py E _ A3 off dk)
        have W2:Aside (wr=putRow E (Sort.ahead w q2) A3 off dk):=hwr;have I2:Aside (CpI T d (k+k2) kk dk):=hI;clear hwr;by_cases hlt2:k+k2<d.size
        · obtain⟨cm,_⟩:=hHk (k+k2) abu
          obtain⟨m2,hm2⟩:∃ m2,m2=k2-1:=⟨_,rfl⟩
          obtain⟨cp,_⟩:=hHk (k+m2) abu;obtain⟨ck,fk⟩:=hHk kk abu;have hlt3:k2<d.size-k:=abu;have hlt4:m2<d.size-k:=abu;rw[hI.high (k+k2) abu,show off+(k+k2)=off+k+k2 by omega] at cm
          rw[hI.high (k+m2) abu,show off+(k+m2)=off+k+m2 by omega] at cp
          have k6:IntKind.i64.wrap ((k2:Int)-1)=(m2:Int):=by rw[bd abu abu];omega
          have hq:=HE.out wr d[k+k2]! d[k+m2]! hO;obtain⟨p',l',c',hs⟩:=SS.out d[k+k2]!;clear hHk hI;rw[hs] at cm hq;generalize hv:E d[k+m2]! =v at cp hq;generalize E dk[kk]! =old at ck;generalize hb:(T d[k+k2]! ==T d[k+m2]!)=b at hq;have C:Aside ((T d[k+k2]! ==T d[k+k2-1]!)=b):=by rw[show k+k2-1=k+m2 by omega];exact hb
          have HS2:Aside (E d[k+k2]! = .slice p' l' c'):=hs;clear hv hb hs hm2 hO;cases b with
          | true=>
           go_wp2
           go_quiet (first| (go_at_call 128;exact Calls.quiet_of_same (hq _)))
           go_wp2
           go_roundg (d.size-(k+(k2+1)))
           case measure=>omega
           case rel=>exact⟨kk,k2+1,q2+nq,dk,rfl,by go_num,by omega,by omega,ab5 _,by rw[W2.out];exact pt E w q2 nq A3 off dk,I2.out.skip (aba abu C.out)⟩
          | false=>
           go_wp2
           go_quiet (first| (go_at_call 128;exact Calls.quiet_of_same (hq _)))
           go_wp2
           go_roundg (d.size-(k+(k2+1)))
           case measure=>omega
           case rel=>exact⟨kk+1,k2+1,q2+nq,dk.setIfInBounds kk d[k+k2]!,by go_num,by go_num,by omega,by omega,ab5 _,bct E abu W2.out _ HS2.out,I2.out.Ac hlt2 (aa8 C.out)⟩
        · have hend:k+k2=d.size:=abu
          have hcl:∀ ty,(Builtin.clear_ #[155] ty #[.slice (some ⟨A3,off+kk,none⟩) (d.size-kk) (cap-kk)]).run Tryz.prog wr= .ok (.tuple #[]) (wr.setCells A3 (off+kk) (List.replicate (d.size-kk) (.slice none 0 0))):=
           fun ty=>Lib.run_clear_slice wr _ _ ty _ Tryz.underlying155 (fun w=>by kernel_rfl) rfl rfl A3 (off+kk) _ _ abu (fun j hj=>by rw[show off+kk+j=off+(kk+j) by omega,(hHk (kk+j) abu).1];rfl) (fun j hj=>by rw[show off+kk+j=off+(kk+j) by omega];exact(hHk (kk+j) abu).2)
          have HHk:Aside (Holds E wr A3 off dk):=hHk;have HO:Aside (BR A3 w wr):=hO;clear hHk hI hO
          go_wp2
          go_ret
          have hI:=I2.out;rw[hend] at hI;refine⟨by rw[hI.len];rfl,ma HO.out (bw _ _ _ _),fun j x hj=> ?_⟩
          have hlt:=(ab1.1 hj).1;rw[hI.len] at hlt;rw[hI.low j hlt] at hj;cases hj;exact bp (HHk.out j abu).1 (fun _=> .inl abu)
      | false=>
       go_wp2
       go_quiet (first| (go_at_call 128;exact(hq _).mono fun _ _ ⟨h1,h2⟩=>⟨h1,_,h2⟩))
       go_wp2
       go_roundg (d.size-(k+1))
       case measure=>omega
       case rel=>
        refine⟨k+1,q+nq,by omega,by omega,ab5 _,by go_num,rfl,fun j hj=> ?_⟩
        by_cases e:j=k
        · subst e
          exact aa8 B.out
        · exact A.out j abu
    · have:k=d.size:=abu
      subst this;have HH:Aside (Holds E w A3 off d):=hH;clear hH
      go_wp2
      go_ret
      obtain⟨e1,e2⟩:=HS.out q hall;exact⟨by rw[e1];rfl,e2⟩
