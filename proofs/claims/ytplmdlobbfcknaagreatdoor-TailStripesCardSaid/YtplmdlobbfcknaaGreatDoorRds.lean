import Derived.Test.YtplmdlobbfcknaaGreatDoorSeA
import Derived.Test.YtplmdlobbfcknaaGreatDoorL9
namespace Go.Proofs.YtplmdlobbfcknaaGreatDoor
open Go Go.Ev Go.RowKit
section
variable {P:Program} {w:World} {n:Nat} {t:TypeId}
theorem aq7 {fs:Array Field} (ht:P.underlying t=some (.struct fs)) (hc:P.cellsOf t=fs.size) (hoff:∀ (i:Nat) f,fs[i]? =some f→f.offset=i∧P.cellsOf f.type=1) {G:Nat→D→Prop}
   (hG:∀ m,m<n→∀ (i:Nat) f,fs[i]? =some f→IsF P w m f.type fun xs=>∃ d,xs=[d]∧G i d):IsF P w n t fun xs=>xs.length=fs.size∧∀ (i:Nat),i<fs.size→∃ d,xs[i]? =some d∧G i d:=by
 intro H enc base spare held cs x h;obtain⟨ys,m,rfl,_,hl,hyl,hy⟩:=DataW.trod_struct ht h;rw[hc] at hl;have key:∀ i,∃ d:D,i<fs.size→(∃ v,cs[i]? =some v∧Rd anyB w v d)∧d.isCell=true∧G i d:=fun i=>by
   by_cases hi:i<fs.size
   · obtain⟨f,hf⟩:∃ f,fs[i]? =some f:=⟨_,y7 hi⟩
     obtain⟨ho,h1⟩:=hoff i f hf;have h2:=hy i f hf;rw[ho,h1,yp yj] at h2;obtain⟨zs,⟨q1,q2,q3⟩,d,rfl,hg⟩:=hG m (Nat.lt_succ_self m) i f hf H enc base spare held _ _ h2;have hlt:i<cs.length:=yj;have e:(cs.drop i).take 1=[cs[i]]:=by
      rw[aag hlt];rfl
     refine⟨d,fun _=>⟨⟨cs[i],yp hlt,q3 0 cs[i] d (by rw[e];rfl) rfl⟩,q2 d yl,hg⟩⟩
   · exact⟨.nilP,fun h=>absurd h hi⟩
 refine⟨(List.range fs.size).map fun i=>(key i).choose,⟨by simp[hl],fun c hc=> ?_,fun i v c h1 h2=> ?_⟩,by simp,fun i hi=>⟨(key i).choose,by simp[hi],((key i).choose_spec hi).2.2⟩⟩
 · obtain⟨i,hi,rfl⟩:=zz.1 hc
   exact((key i).choose_spec (z7.1 hi)).2.1
 · have hi:i<fs.size:=by
     have:=(yo.1 h1).1;omega
   rw[yw,List.getElem?_range hi] at h2;cases h2;obtain⟨⟨v',h3,h4⟩,_⟩:=(key i).choose_spec hi;rw[h1] at h3;cases h3;exact h4
theorem jk {G G':List D→Prop} (h:IsF P w n t G) (hg:∀ xs,G xs→G' xs):IsF P w n t G':=fun H enc base spare held cs x hx=>let⟨xs,h1,h2⟩:=h H enc base spare held cs x hx;⟨xs,h1,hg xs h2⟩
end
theorem az3 {α:Type} {f:α→D}:∀ es:List D,(∀ d∈es,∃ x,d=f x)→∃ l:List α,es=l.map f
 | [],_=>⟨[],rfl⟩
 | d::es,h=>by
  obtain⟨x,rfl⟩:=h d yl;obtain⟨l,rfl⟩:=az3 es fun d hd=>h d (by simp[hd])
  exact⟨x::l,rfl⟩
def GI:Nat→D→Prop:=fun _ d=>∃ n:Int,d= .int .i64 n
theorem aq8 {w:World} (n:Nat):IsF Tryz.prog w n 56 fun xs=>∃ p:I5,xs=[.int .i64 p.1,.int .i64 p.2.1,.int .i64 p.2.2.1,.int .i64 p.2.2.2.1,.int .i64 p.2.2.2.2]:=by
 refine jk (aq7 (G:=GI) Tryz.underlying56 (show Tryz.prog.cellsOf 56=5 by kernel_rfl) (fun i f hf=> ?_) (fun m hm i f hf=> ?_)) fun xs ⟨hl,hx⟩=> ?_
 · match i,hf with
   |0,hf=>cases hf;exact⟨rfl,by kernel_rfl⟩
   |1,hf=>cases hf;exact⟨rfl,by kernel_rfl⟩
   |2,hf=>cases hf;exact⟨rfl,by kernel_rfl⟩
   |3,hf=>cases hf;exact⟨rfl,by kernel_rfl⟩
   |4,hf=>cases hf;exact⟨rfl,by kernel_rfl⟩
   |i+5,hf=>simp at hf
 · match i,hf with
   |0,hf=>cases hf;exact jk (IsF.int Tryz.underlying3) fun xs ⟨s,hx,_⟩=>⟨_,hx,s,rfl⟩
   |1,hf=>cases hf;exact jk (IsF.int Tryz.underlying3) fun xs ⟨s,hx,_⟩=>⟨_,hx,s,rfl⟩
   |2,hf=>cases hf;exact jk (IsF.int Tryz.underlying3) fun xs ⟨s,hx,_⟩=>⟨_,hx,s,rfl⟩
   |3,hf=>cases hf;exact jk (IsF.int Tryz.underlying3) fun xs ⟨s,hx,_⟩=>⟨_,hx,s,rfl⟩
   |4,hf=>cases hf;exact jk (IsF.int Tryz.underlying3) fun xs ⟨s,hx,_⟩=>⟨_,hx,s,rfl⟩
   |i+5,hf=>simp at hf
 · have hl':xs.length=5:=hl
   obtain⟨d0,e0,a0,rfl⟩:=hx 0 (show 0<5 by decide)
   obtain⟨d1,e1,a1,rfl⟩:=hx 1 (show 1<5 by decide)
   obtain⟨d2,e2,a2,rfl⟩:=hx 2 (show 2<5 by decide)
   obtain⟨d3,e3,a3,rfl⟩:=hx 3 (show 3<5 by decide)
   obtain⟨d4,e4,a4,rfl⟩:=hx 4 (show 4<5 by decide)
   match xs,hl',e0,e1,e2,e3,e4 with
   | [x0,x1,x2,x3,x4],_,e0,e1,e2,e3,e4=>
    cases e0;cases e1;cases e2;cases e3;cases e4;exact⟨(a0,a1,a2,a3,a4),rfl⟩
theorem ahs {w:World} (n:Nat):IsF Tryz.prog w n 23 fun xs=>∃ l:List I5,xs=[.sl (l.map s5D)]∧l.length≤maxLen:=by
 refine jk (IsF.slice (P:=Tryz.prog) (w:=w) (n:=n) Tryz.underlying23 (by rw[show Tryz.prog.cellsOf 56=5 by kernel_rfl];decide) (fun k hk=>aq8 k) D.agg (fun xs _ _=>rfl)) fun xs ⟨es,hx,hl,hes⟩=> ?_
 obtain⟨l,rfl⟩:=az3 (f:=s5D) es fun d hd=>by
  obtain⟨ys,⟨t,rfl⟩,_,rfl⟩:=hes d hd;exact⟨t,rfl⟩
 exact⟨l,hx,by simpa using hl⟩
section
variable {W:World} {H:Type} {enc:TypeId×Value→H} {base:Nat} {spare:Nat→Bool} {held:Bool} {x:DataW H×List MemPlace} {v:Value}
theorem yh (h:∃ fuel,DataW.trod enc Tryz.prog W base spare held fuel 23 v.cells.toList=some x) (hc:v.cells.toList=[v]):
  ∃ a:List I5,a.length≤maxLen∧Rd anyB W v (.sl (a.map s5D)):=by
 obtain⟨fuel,hf⟩:=h;rw[hc] at hf;obtain⟨xs,⟨h1,h2,h3⟩,l,rfl,hl⟩:=ahs fuel H enc base spare held _ _ hf;exact⟨l,hl,h3 0 v _ rfl rfl⟩
end
