import Derived.Test.YtkdiccgfbfbjlaaGreatKnA
import Derived.Test.YtkdiccgfbfbjlaaGreatL10
set_option linter.unusedSectionVars false
namespace Go.Proofs.YtkdiccgfbfbjlaaGreat
open Go Go.Ev Go.RowKit
section
variable {P:Program} {w:World} {n:Nat} {t:TypeId}
theorem pa {fs:Array Field} (ht:P.underlying t=some (.struct fs)) (hc:P.cellsOf t=fs.size) (hoff:∀ (i:Nat) f,fs[i]? =some f→f.offset=i∧P.cellsOf f.type=1) {G:Nat→D→Prop}
   (hG:∀ m,m<n→∀ (i:Nat) f,fs[i]? =some f→IsF P w m f.type fun xs=>∃ d,xs=[d]∧G i d):IsF P w n t fun xs=>xs.length=fs.size∧∀ (i:Nat),i<fs.size→∃ d,xs[i]? =some d∧G i d:=by
 intro H enc base spare held cs x h;obtain⟨ys,m,rfl,_,hl,hyl,hy⟩:=DataW.trod_struct ht h;rw[hc] at hl;have key:∀ i,∃ d:D,i<fs.size→(∃ v,cs[i]? =some v∧Rd CE w v d)∧d.AP=true∧G i d:=fun i=>by
   by_cases hi:i<fs.size
   · obtain⟨f,hf⟩:∃ f,fs[i]? =some f:=⟨_,acm hi⟩
     obtain⟨ho,h1⟩:=hoff i f hf;have h2:=hy i f hf;rw[ho,h1,ab0 abu] at h2;obtain⟨zs,⟨q1,q2,q3⟩,d,rfl,hg⟩:=hG m (Nat.lt_succ_self m) i f hf H enc base spare held _ _ h2;have hlt:i<cs.length:=abu;have e:(cs.drop i).take 1=[cs[i]]:=by
      rw[adm hlt];rfl
     refine⟨d,fun _=>⟨⟨cs[i],ab0 hlt,q3 0 cs[i] d (by rw[e];rfl) rfl⟩,q2 d abw,hg⟩⟩
   · exact⟨.Bs,fun h=>absurd h hi⟩
 refine⟨(List.range fs.size).map fun i=>(key i).choose,⟨by simp[hl],fun c hc=> ?_,fun i v c h1 h2=> ?_⟩,by simp,fun i hi=>⟨(key i).choose,by simp[hi],((key i).choose_spec hi).2.2⟩⟩
 · obtain⟨i,hi,rfl⟩:=adl.1 hc
   exact((key i).choose_spec (ad0.1 hi)).2.1
 · have hi:i<fs.size:=by
     have:=(ab1.1 h1).1;omega
   rw[acf,List.getElem?_range hi] at h2;cases h2;obtain⟨⟨v',h3,h4⟩,_⟩:=(key i).choose_spec hi;rw[h1] at h3;cases h3;exact h4
theorem cn {G G':List D→Prop} (h:IsF P w n t G) (hg:∀ xs,G xs→G' xs):IsF P w n t G':=fun H enc base spare held cs x hx=>let⟨xs,h1,h2⟩:=h H enc base spare held cs x hx;⟨xs,h1,hg xs h2⟩
theorem bcs:∀ es:List D,(∀ d∈es,∃ b:Tx,d= .str b)→∃ l:List Tx,es=l.map D.str
 | [],_=>⟨[],rfl⟩
 | d::es,h=>by
  obtain⟨b,rfl⟩:=h d abw;obtain⟨l,rfl⟩:=bcs es fun d hd=>h d (by simp[hd])
  exact⟨b::l,rfl⟩
theorem Ui {e:TypeId} (ht:P.underlying t=some (.slice e)) (he:P.underlying e=some .string) (hz:P.cellsOf e=1):IsF P w n t fun xs=>∃ l:List Tx,xs=[.sl (l.map D.str)]∧l.length≤maxLen:=by
 refine cn (IsF.slice (P:=P) (w:=w) (n:=n) ht abu (fun m _=>IsF.str he) mkD (fun xs hx _=>by obtain⟨s,rfl,_⟩:=hx;rfl)) fun xs ⟨es,hx,hl,hes⟩=> ?_
 obtain⟨l,rfl⟩:=bcs es fun d hd=>by
  obtain⟨ys,⟨s,rfl,_⟩,_,rfl⟩:=hes d hd;exact⟨s,rfl⟩
 exact⟨l,hx,by simpa using hl⟩
end
def Qq:Ty→Prop:=fun t=>∀ m,u6 m t
theorem ze {α:Type} {f:α→D} {p:α→Prop}:∀ es:List D,(∀ d∈es,∃ x,d=f x∧p x)→∃ l:List α,es=l.map f∧∀ x∈l,p x
 | [],_=>⟨[],rfl,by simp⟩
 | d::es,h=>by
  obtain⟨x,rfl,hx⟩:=h d abw;obtain⟨l,rfl,hl⟩:=ze es fun d hd=>h d (by simp[hd])
  exact⟨x::l,rfl,fun y hy=>by
   rcases ach.1 hy with e|e
   · rw[e];exact hx
   · exact hl y e⟩
theorem QW {n:Nat} (h:n≤maxLen):n<2 ^ 63:=by unfold maxLen at h;omega
theorem Ul {m:Int} (h:(Lit.int .i64 m).wf=true):inI m:=by
 simp[Lit.wf,IntKind.min,IntKind.max,IntKind.signed,IntKind.bits] at h;unfold inI;omega
theorem fA {w:World}:∀ n,IsF Tryz.prog w n 25 fun xs=>∃ t:Ty,xs=t.d.cells∧Qq t:=by
 intro n
 induction n using Nat.strongRecOn with
 | _ n IH=>
  let G:Nat→D→Prop:=fun i d=>match i with
    |1=>∃ l:List Tx,d= .sl (l.map D.str)∧l.length≤maxLen
    |2=>∃ l:List Ty,d= .sl (l.map Ty.d)∧l.length≤maxLen∧∀ k∈l,Qq k
    |_=>∃ m,d= .int .i64 m
  have hint:∀ m,IsF Tryz.prog w m 3 fun xs=>∃ d,xs=[d]∧∃ m,d= .int .i64 m:=fun m=>cn (IsF.int Tryz.underlying3) fun xs ⟨k,hx,_⟩=>⟨_,hx,k,rfl⟩
  refine cn (pa (G:=G) Tryz.underlying25 (show Tryz.prog.cellsOf 25=6 by kernel_rfl) (fun i f hf=> ?_) (fun m hm i f hf=> ?_)) fun xs ⟨hl,hx⟩=> ?_
  · match i,hf with
    |0,hf=>cases hf;exact⟨rfl,by kernel_rfl⟩
    |1,hf=>cases hf;exact⟨rfl,by kernel_rfl⟩
    |2,hf=>cases hf;exact⟨rfl,by kernel_rfl⟩
    |3,hf=>cases hf;exact⟨rfl,by kernel_rfl⟩
    |4,hf=>cases hf;exact⟨rfl,by kernel_rfl⟩
    |5,hf=>cases hf;exact⟨rfl,by kernel_rfl⟩
    |i+6,hf=>simp at hf
  · match i,hf with
    |0,hf=>cases hf;exact hint m
    |1,hf=>cases hf;exact cn (Ui Tryz.underlying22 Tryz.underlying9 abv) fun xs ⟨l,hx,hl⟩=>⟨_,hx,l,rfl,hl⟩
    | 2,hf=>
      cases hf;refine cn (IsF.slice (P:=Tryz.prog) (w:=w) (n:=m) Tryz.underlying23 (by rw[show Tryz.prog.cellsOf 25=6 by kernel_rfl];decide) (fun k hk=>IH k abu) D.agg (fun xs _ _=>rfl)) fun xs ⟨es,hx,hl,hes⟩=> ?_
      obtain⟨l,rfl,hp⟩:=ze (f:=Ty.d) (p:=Qq) es fun d hd=>by
       obtain⟨ys,⟨t,rfl,ht⟩,_,rfl⟩:=hes d hd;exact⟨t,by rw[Au,X5],ht⟩
      exact⟨_,hx,l,rfl,by simpa using hl,hp⟩
    |3,hf=>cases hf;exact hint m
    |4,hf=>cases hf;exact hint m
    |5,hf=>cases hf;exact hint m
    |i+6,hf=>simp at hf
  · have A6:xs.length=6:=hl
    obtain⟨d0,e0,k,rfl⟩:=hx 0 (show 0<6 by decide)
    obtain⟨d1,e1,ns,rfl,hns⟩:=hx 1 (show 1<6 by decide)
    obtain⟨d2,e2,ks,rfl,P2,hki⟩:=hx 2 (show 2<6 by decide)
    obtain⟨d3,e3,l,rfl⟩:=hx 3 (show 3<6 by decide)
    obtain⟨d4,e4,p,rfl⟩:=hx 4 (show 4<6 by decide)
    obtain⟨d5,e5,s,rfl⟩:=hx 5 (show 5<6 by decide)
    refine⟨.mk k ns ks l p s,?_,fun m=> ?_⟩
    · match xs,A6,e0,e1,e2,e3,e4,e5 with
      | [a,b,c,d,e,f],_,e0,e1,e2,e3,e4,e5=>
       cases e0;cases e1;cases e2;cases e3;cases e4;cases e5;rw[Au];rfl
    · cases m with
      |zero=>trivial
      |succ m=>exact⟨QW hns,QW P2,fun x hx=>hki x hx m⟩
variable [Sh]
theorem blf:∀ {l:List Va},(∀ v∈l,okV v)→Fv l
 | [],_=>trivial
 |v::l,h=>⟨h v abw,blf fun x hx=>h x (by simp[hx])⟩
theorem eZ {w:World}:∀ n,IsF Tryz.prog w n 81 fun xs=>∃ v:Va,xs=v.d.cells∧okV v:=by
 intro n
 induction n using Nat.strongRecOn with
 | _ n IH=>
  let G:Nat→D→Prop:=fun i d=>match i with
    |0=>∃ b,d= .bool b
    |3=>∃ b:Tx,d=BA b∧b.length≤maxLen
    |4=>∃ l:List Va,d= .sl (l.map Va.d)∧l.length≤maxLen∧∀ k∈l,okV k
    |_=>∃ m,d= .int .i64 m∧inI m
  refine cn (pa (G:=G) Tryz.underlying81 (show Tryz.prog.cellsOf 81=5 by kernel_rfl) (fun i f hf=> ?_) (fun m hm i f hf=> ?_)) fun xs ⟨hl,hx⟩=> ?_
  · match i,hf with
    |0,hf=>cases hf;exact⟨rfl,by kernel_rfl⟩
    |1,hf=>cases hf;exact⟨rfl,by kernel_rfl⟩
    |2,hf=>cases hf;exact⟨rfl,by kernel_rfl⟩
    |3,hf=>cases hf;exact⟨rfl,by kernel_rfl⟩
    |4,hf=>cases hf;exact⟨rfl,by kernel_rfl⟩
    |i+5,hf=>simp at hf
  · match i,hf with
    |0,hf=>cases hf;exact cn (IsF.bool Tryz.underlying4) fun xs ⟨b,hx⟩=>⟨_,hx,b,rfl⟩
    |1,hf=>cases hf;exact cn (IsF.int Tryz.underlying2) fun xs ⟨k,hx,hw⟩=>⟨_,hx,k,rfl,Ul hw⟩
    |2,hf=>cases hf;exact cn (IsF.int Tryz.underlying3) fun xs ⟨k,hx,hw⟩=>⟨_,hx,k,rfl,Ul hw⟩
    |3,hf=>cases hf;exact cn (Xq Tryz.underlying65 Tryz.underlying5 abv) fun xs ⟨b,hx,hl⟩=>⟨_,hx,b,rfl,hl⟩
    | 4,hf=>
      cases hf;refine cn (IsF.slice (P:=Tryz.prog) (w:=w) (n:=m) Tryz.underlying26 (by rw[show Tryz.prog.cellsOf 81=5 by kernel_rfl];decide) (fun k hk=>IH k abu) D.agg (fun xs _ _=>rfl)) fun xs ⟨es,hx,hl,hes⟩=> ?_
      obtain⟨l,rfl,hp⟩:=ze (f:=Va.d) (p:=okV) es fun d hd=>by
       obtain⟨ys,⟨t,rfl,ht⟩,_,rfl⟩:=hes d hd;exact⟨t,by rw[BQ,Qc],ht⟩
      exact⟨_,hx,l,rfl,by simpa using hl,hp⟩
    |i+5,hf=>simp at hf
  · have A6:xs.length=5:=hl
    obtain⟨d0,e0,nl,rfl⟩:=hx 0 (show 0<5 by decide)
    obtain⟨d1,e1,i,rfl,hi⟩:=hx 1 (show 1<5 by decide)
    obtain⟨d2,e2,m,rfl,hm⟩:=hx 2 (show 2<5 by decide)
    obtain⟨d3,e3,b,rfl,hb⟩:=hx 3 (show 3<5 by decide)
    obtain⟨d4,e4,ks,rfl,P2,hki⟩:=hx 4 (show 4<5 by decide)
    refine⟨.mk nl i m b ks,?_,?_⟩
    · match xs,A6,e0,e1,e2,e3,e4 with
      | [a,b,c,d,e],_,e0,e1,e2,e3,e4=>
       cases e0;cases e1;cases e2;cases e3;cases e4;rw[BQ];rfl
    · rw[GF]
      exact⟨hi,QW hb,QW P2,blf hki⟩
theorem abq {W:World} {cs:Array Value} {d:D} (hd:d= .agg d.cells) (h:Rds W cs.toList d.cells):Rd CE W (.agg cs) d:=by
 obtain⟨h1,h2,h3⟩:=h;rw[hd];exact Rd.agg cs.toList d.cells h1 h2 h3
section
variable {W:World} {H:Type} {enc:TypeId×Value→H} {base:Nat} {spare:Nat→Bool} {held:Bool} {cs:Array Value} {x:DataW H×List MemPlace}
theorem XV (h:∃ fuel,DataW.trod enc Tryz.prog W base spare held fuel 25 (Value.agg cs).cells.toList=some x):∃ t:Ty,Qq t∧Rd CE W (.agg cs) t.d:=by
 obtain⟨fuel,hf⟩:=h;obtain⟨xs,hr,t,rfl,ht⟩:=fA fuel H enc base spare held _ _ hf;exact⟨t,ht,abq (by rw[Au];exact t.DE) hr⟩
theorem Uj {w:World} {n:Nat}:IsF Tryz.prog w n 28 fun xs=>∃ o:Op,xs=o.d.cells:=by
 let G:Nat→D→Prop:=fun i d=>∃ m,d= .int .i64 m
 have hint:∀ m,IsF Tryz.prog w m 3 fun xs=>∃ d,xs=[d]∧∃ m,d= .int .i64 m:=fun m=>cn (IsF.int Tryz.underlying3) fun xs ⟨k,hx,_⟩=>⟨_,hx,k,rfl⟩
 refine cn (pa (G:=G) Tryz.underlying28 (show Tryz.prog.cellsOf 28=6 by kernel_rfl) (fun i f hf=> ?_) (fun m hm i f hf=> ?_)) fun xs ⟨hl,hx⟩=> ?_
 · match i,hf with
   |0,hf=>cases hf;exact⟨rfl,by kernel_rfl⟩
   |1,hf=>cases hf;exact⟨rfl,by kernel_rfl⟩
   |2,hf=>cases hf;exact⟨rfl,by kernel_rfl⟩
   |3,hf=>cases hf;exact⟨rfl,by kernel_rfl⟩
   |4,hf=>cases hf;exact⟨rfl,by kernel_rfl⟩
   |5,hf=>cases hf;exact⟨rfl,by kernel_rfl⟩
   |i+6,hf=>simp at hf
 · match i,hf with
   |0,hf=>cases hf;exact hint m
   |1,hf=>cases hf;exact hint m
   |2,hf=>cases hf;exact hint m
   |3,hf=>cases hf;exact hint m
   |4,hf=>cases hf;exact hint m
   |5,hf=>cases hf;exact hint m
   |i+6,hf=>simp at hf
 · have A6:xs.length=6:=hl
   obtain⟨d0,e0,a,rfl⟩:=hx 0 (show 0<6 by decide)
   obtain⟨d1,e1,b,rfl⟩:=hx 1 (show 1<6 by decide)
   obtain⟨d2,e2,c,rfl⟩:=hx 2 (show 2<6 by decide)
   obtain⟨d3,e3,d,rfl⟩:=hx 3 (show 3<6 by decide)
   obtain⟨d4,e4,e,rfl⟩:=hx 4 (show 4<6 by decide)
   obtain⟨d5,e5,f,rfl⟩:=hx 5 (show 5<6 by decide)
   refine⟨⟨a,b,c,d,e,f⟩,?_⟩
   match xs,A6,e0,e1,e2,e3,e4,e5 with
   | [x0,x1,x2,x3,x4,x5],_,e0,e1,e2,e3,e4,e5=>
    cases e0;cases e1;cases e2;cases e3;cases e4;cases e5;rfl
theorem bdo (h:∃ fuel,DataW.trod enc Tryz.prog W base spare held fuel 28 (Value.agg cs).cells.toList=some x):∃ o:Op,Rd CE W (.agg cs) o.d:=by
 obtain⟨fuel,hf⟩:=h;obtain⟨xs,hr,o,rfl⟩:=Uj H enc base spare held _ _ hf;exact⟨o,abq rfl hr⟩
theorem TC {v:Value} (h:∃ fuel,DataW.trod enc Tryz.prog W base spare held fuel 26 v.cells.toList=some x) (hv:v.cells= #[v]):∃ l:List Va,(l.length≤maxLen∧∀ a∈l,okV a)∧Rd CE W v (.sl (l.map Va.d)):=by
 obtain⟨fuel,hf⟩:=h;rw[hv] at hf;obtain⟨xs,⟨_,_,h3⟩,es,rfl,hl,hes⟩:=IsF.slice (P:=Tryz.prog) (w:=W) (n:=fuel) Tryz.underlying26 (by rw[show Tryz.prog.cellsOf 81=5 by kernel_rfl];decide) (fun k hk=>eZ k) D.agg (fun xs _ _=>rfl) H enc base spare held _ _ hf
 obtain⟨l,rfl,hp⟩:=ze (f:=Va.d) (p:=okV) es fun d hd=>by
  obtain⟨ys,⟨t,rfl,ht⟩,_,rfl⟩:=hes d hd;exact⟨t,by rw[BQ,Qc],ht⟩
 exact⟨l,⟨by simpa using hl,hp⟩,h3 0 v _ rfl rfl⟩
theorem UH:∀ l:List Va,(∀ v∈l,okV v)→C6 l=true:=by
 have key:∀ (m:Nat) (v:Va),v.size≤m→okV v→Pg v=true:=by
  intro m
  induction m with
  |zero=>intro v h;have:=v.size_pos;omega
  | succ m IH=>
   intro v h hb;obtain⟨h1,h2,h3,h4⟩:=(GF v).1 hb;have he:Pg v=(decide (-9223372036854775808≤v.i)&&decide (v.i<9223372036854775808)&&decide (v.b.length<9223372036854775808)&&decide (v.kids.length<9223372036854775808)&&C6 v.kids):=by cases v;rw[Pg];rfl
   rw[he];have:∀ l:List Va,(∀ k∈l,k∈v.kids)→C6 l=true:=fun l=>by
    induction l with
    |nil=>intro _;rw[C6]
    | cons k l ih=>
     intro hm;rw[C6,aca];exact⟨IH k (by have:=Va.A8 (hm k abw);omega) (DJ h4 (hm k abw)),ih fun k hk=>hm k (by simp[hk])⟩
   have hk:=this v.kids fun _ h=>h
   unfold inI at h1;simp only[hk,Bool.and_true,aca,ab4];omega
 intro l
 induction l with
 |nil=>intro _;rw[C6]
 |cons k l ih=>intro h;rw[C6,aca];exact⟨key _ k (ab5 _) (h k abw),ih fun v hv=>h v (by simp[hv])⟩
end
end Go.Proofs.YtkdiccgfbfbjlaaGreat
namespace Go.Proofs.YtkdiccgfbfbjlaaGreat
open Go Go.Ev
instance shT:Sh:=⟨true⟩
theorem X9:FU Tryz.prog cfg:=YA
theorem xo (t:Ty) (vs:List Va) (o:Op) (_:Qq t) (h:vs.length≤maxLen∧∀ a∈vs,okV a):evL cfg Rs 0 [.d t.d,.d (.sl (vs.map Va.d)),.d o.d] []=some (.d (.bool (true)),[]):=
 lawX rfl (Ue rfl) t vs o (by have:=h.1;unfold maxLen at this;omega) (UH vs h.2)
