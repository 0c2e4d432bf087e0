import Derived.Test.YtmeohcmbohicoaaGreatDoorTyB
import Derived.Test.YtmeohcmbohicoaaGreatDoorL9
namespace Go.Proofs.YtmeohcmbohicoaaGreatDoor
open Go Go.Ev Go.RowKit
section
variable {P:Program} {w:World} {n:Nat} {t:TypeId}
theorem av8 {fs:Array Field} (ht:P.underlying t=some (.struct fs)) (hc:P.cellsOf t=fs.size) (hoff:∀ (i:Nat) f,fs[i]? =some f→f.offset=i∧P.cellsOf f.type=1) {G:Nat→D→Prop}
   (hG:∀ m,m<n→∀ (i:Nat) f,fs[i]? =some f→IsF P w m f.type fun xs=>∃ d,xs=[d]∧G i d):IsF P w n t fun xs=>xs.length=fs.size∧∀ (i:Nat),i<fs.size→∃ d,xs[i]? =some d∧G i d:=by
 intro H enc base spare held cs x h;obtain⟨ys,m,rfl,_,hl,hyl,hy⟩:=DataW.trod_struct ht h;rw[hc] at hl;have key:∀ i,∃ d:D,i<fs.size→(∃ v,cs[i]? =some v∧Rd anyB w v d)∧d.isCell=true∧G i d:=fun i=>by
   by_cases hi:i<fs.size
   · obtain⟨f,hf⟩:∃ f,fs[i]? =some f:=⟨_,w6 hi⟩
     obtain⟨ho,h1⟩:=hoff i f hf;have h2:=hy i f hf;rw[ho,h1,vy vn] at h2;obtain⟨zs,⟨q1,q2,q3⟩,d,rfl,hg⟩:=hG m (Nat.lt_succ_self m) i f hf H enc base spare held _ _ h2;have hlt:i<cs.length:=vn;have e:(cs.drop i).take 1=[cs[i]]:=by
      rw[yg hlt];rfl
     refine⟨d,fun _=>⟨⟨cs[i],vy hlt,q3 0 cs[i] d (by rw[e];rfl) rfl⟩,q2 d vq,hg⟩⟩
   · exact⟨.nilP,fun h=>absurd h hi⟩
 refine⟨(List.range fs.size).map fun i=>(key i).choose,⟨by simp[hl],fun c hc=> ?_,fun i v c h1 h2=> ?_⟩,by simp,fun i hi=>⟨(key i).choose,by simp[hi],((key i).choose_spec hi).2.2⟩⟩
 · obtain⟨i,hi,rfl⟩:=xr.1 hc
   exact((key i).choose_spec (List.mem_range.1 hi)).2.1
 · have hi:i<fs.size:=by
     have:=(vw.1 h1).1;omega
   rw[v6,List.getElem?_range hi] at h2;cases h2;obtain⟨⟨v',h3,h4⟩,_⟩:=(key i).choose_spec hi;rw[h1] at h3;cases h3;exact h4
theorem k8 {G G':List D→Prop} (h:IsF P w n t G) (hg:∀ xs,G xs→G' xs):IsF P w n t G':=fun H enc base spare held cs x hx=>let⟨xs,h1,h2⟩:=h H enc base spare held cs x hx;⟨xs,h1,hg xs h2⟩
theorem axf:∀ es:List D,(∀ d∈es,∃ b:Tx,d= .str b)→∃ l:List Tx,es=l.map D.str
 | [],_=>⟨[],rfl⟩
 | d::es,h=>by
  obtain⟨b,rfl⟩:=h d vq;obtain⟨l,rfl⟩:=axf es fun d hd=>h d (by simp[hd])
  exact⟨b::l,rfl⟩
theorem isF_strs {e:TypeId} (ht:P.underlying t=some (.slice e)) (he:P.underlying e=some .string) (hz:P.cellsOf e=1):IsF P w n t fun xs=>∃ l:List Tx,xs=[.sl (l.map D.str)]∧l.length≤maxLen:=by
 refine k8 (IsF.slice (P:=P) (w:=w) (n:=n) ht vn (fun m _=>IsF.str he) mkD (fun xs hx _=>by obtain⟨s,rfl,_⟩:=hx;rfl)) fun xs ⟨es,hx,hl,hes⟩=> ?_
 obtain⟨l,rfl⟩:=axf es fun d hd=>by
  obtain⟨ys,⟨s,rfl,_⟩,_,rfl⟩:=hes d hd;exact⟨s,rfl⟩
 exact⟨l,hx,by simpa using hl⟩
end
def tyIn:Ty→Prop:=fun t=>∀ m,smallT m t
theorem a62 {α:Type} {f:α→D} {p:α→Prop}:∀ es:List D,(∀ d∈es,∃ x,d=f x∧p x)→∃ l:List α,es=l.map f∧∀ x∈l,p x
 | [],_=>⟨[],rfl,by simp⟩
 | d::es,h=>by
  obtain⟨x,rfl,hx⟩:=h d vq;obtain⟨l,rfl,hl⟩:=a62 es fun d hd=>h d (by simp[hd])
  exact⟨x::l,rfl,fun y hy=>by
   rcases wc.1 hy with e|e
   · rw[e];exact hx
   · exact hl y e⟩
theorem len64 {n:Nat} (h:n≤maxLen):n<2 ^ 63:=by unfold maxLen at h;omega
theorem isF_ty {w:World}:∀ n,IsF Tryz.prog w n 25 fun xs=>∃ t:Ty,xs=t.d.cells∧tyIn t:=by
 intro n
 induction n using Nat.strongRecOn with
 | _ n IH=>
  let G:Nat→D→Prop:=fun i d=>match i with
    |1=>∃ l:List Tx,d= .sl (l.map D.str)∧l.length≤maxLen
    |2=>∃ l:List Ty,d= .sl (l.map Ty.d)∧l.length≤maxLen∧∀ k∈l,tyIn k
    |_=>∃ m,d= .int .i64 m
  have hint:∀ m,IsF Tryz.prog w m 3 fun xs=>∃ d,xs=[d]∧∃ m,d= .int .i64 m:=fun m=>k8 (IsF.int Tryz.underlying3) fun xs ⟨k,hx,_⟩=>⟨_,hx,k,rfl⟩
  refine k8 (av8 (G:=G) Tryz.underlying25 (show Tryz.prog.cellsOf 25=6 by kernel_rfl) (fun i f hf=> ?_) (fun m hm i f hf=> ?_)) fun xs ⟨hl,hx⟩=> ?_
  · match i,hf with
    |0,hf=>cases hf;exact⟨rfl,by kernel_rfl⟩
    |1,hf=>cases hf;exact⟨rfl,by kernel_rfl⟩
    |2,hf=>cases hf;exact⟨rfl,by kernel_rfl⟩
    |3,hf=>cases hf;exact⟨rfl,by kernel_rfl⟩
    |4,hf=>cases hf;exact⟨rfl,by kernel_rfl⟩
    |5,hf=>cases hf;exact⟨rfl,by kernel_rfl⟩
    |i+6,hf=>simp at hf
  · match i,hf with
    |0,hf=>cases hf;exact hint m
    |1,hf=>cases hf;exact k8 (isF_strs Tryz.underlying22 Tryz.underlying9 vo) fun xs ⟨l,hx,hl⟩=>⟨_,hx,l,rfl,hl⟩
    | 2,hf=>
      cases hf;refine k8 (IsF.slice (P:=Tryz.prog) (w:=w) (n:=m) Tryz.underlying23 (by rw[show Tryz.prog.cellsOf 25=6 by kernel_rfl];decide) (fun k hk=>IH k vn) D.agg (fun xs _ _=>rfl)) fun xs ⟨es,hx,hl,hes⟩=> ?_
      obtain⟨l,rfl,hp⟩:=a62 (f:=Ty.d) (p:=tyIn) es fun d hd=>by
       obtain⟨ys,⟨t,rfl,ht⟩,_,rfl⟩:=hes d hd;exact⟨t,by rw[cells_ty,fold_ty],ht⟩
      exact⟨_,hx,l,rfl,by simpa using hl,hp⟩
    |3,hf=>cases hf;exact hint m
    |4,hf=>cases hf;exact hint m
    |5,hf=>cases hf;exact hint m
    |i+6,hf=>simp at hf
  · have hl':xs.length=6:=hl
    obtain⟨d0,e0,k,rfl⟩:=hx 0 (show 0<6 by decide)
    obtain⟨d1,e1,ns,rfl,hns⟩:=hx 1 (show 1<6 by decide)
    obtain⟨d2,e2,ks,rfl,hks,hki⟩:=hx 2 (show 2<6 by decide)
    obtain⟨d3,e3,l,rfl⟩:=hx 3 (show 3<6 by decide)
    obtain⟨d4,e4,p,rfl⟩:=hx 4 (show 4<6 by decide)
    obtain⟨d5,e5,s,rfl⟩:=hx 5 (show 5<6 by decide)
    refine⟨.mk k ns ks l p s,?_,fun m=> ?_⟩
    · match xs,hl',e0,e1,e2,e3,e4,e5 with
      | [a,b,c,d,e,f],_,e0,e1,e2,e3,e4,e5=>
       cases e0;cases e1;cases e2;cases e3;cases e4;cases e5;rw[cells_ty];rfl
    · cases m with
      |zero=>trivial
      |succ m=>exact⟨len64 hns,len64 hks,fun x hx=>hki x hx m⟩
theorem ax8 {W:World} {cs:Array Value} {d:D} (hd:d= .agg d.cells) (h:Rds W cs.toList d.cells):Rd anyB W (.agg cs) d:=by
 obtain⟨h1,h2,h3⟩:=h;rw[hd];exact Rd.agg cs.toList d.cells h1 h2 h3
section
variable {W:World} {H:Type} {enc:TypeId×Value→H} {base:Nat} {spare:Nat→Bool} {held:Bool} {cs:Array Value} {x:DataW H×List MemPlace}
theorem read_ty (h:∃ fuel,DataW.trod enc Tryz.prog W base spare held fuel 25 (Value.agg cs).cells.toList=some x):∃ t:Ty,tyIn t∧Rd anyB W (.agg cs) t.d:=by
 obtain⟨fuel,hf⟩:=h;obtain⟨xs,hr,t,rfl,ht⟩:=isF_ty fuel H enc base spare held _ _ hf;exact⟨t,ht,ax8 (by rw[cells_ty];exact t.d_eq) hr⟩
end
