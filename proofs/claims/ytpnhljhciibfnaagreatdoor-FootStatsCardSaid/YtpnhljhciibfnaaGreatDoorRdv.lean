import Derived.Test.YtpnhljhciibfnaaGreatDoorTyB
import Derived.Test.YtpnhljhciibfnaaGreatDoorL10
import Derived.Test.YtpnhljhciibfnaaGreatDoorStY
set_option linter.unusedSimpArgs false
set_option linter.unusedSectionVars false
namespace Go.Proofs.YtpnhljhciibfnaaGreatDoor
open Go Go.Ev Go.RowKit
section
variable {P:Program} {w:World} {n:Nat} {t:TypeId}
theorem xf {fs:Array Field} (ht:P.underlying t=some (.struct fs)) (hc:P.cellsOf t=fs.size) (hoff:∀ (i:Nat) f,fs[i]? =some f→f.offset=i∧P.cellsOf f.type=1) {G:Nat→D→Prop}
   (hG:∀ m,m<n→∀ (i:Nat) f,fs[i]? =some f→IsF P w m f.type fun xs=>∃ d,xs=[d]∧G i d):IsF P w n t fun xs=>xs.length=fs.size∧∀ (i:Nat),i<fs.size→∃ d,xs[i]? =some d∧G i d:=by
 intro H enc base spare held cs x h;obtain⟨ys,m,rfl,_,hl,hyl,hy⟩:=DataW.trod_struct ht h;rw[hc] at hl;have key:∀ i,∃ d:D,i<fs.size→(∃ v,cs[i]? =some v∧Rd DD w v d)∧d.AW=true∧G i d:=fun i=>by
   by_cases hi:i<fs.size
   · obtain⟨f,hf⟩:∃ f,fs[i]? =some f:=⟨_,abz hi⟩
     obtain⟨ho,h1⟩:=hoff i f hf;have h2:=hy i f hf;rw[ho,h1,abd aa1] at h2;obtain⟨zs,⟨q1,q2,q3⟩,d,rfl,hg⟩:=hG m (Nat.lt_succ_self m) i f hf H enc base spare held _ _ h2;have hlt:i<cs.length:=aa1;have e:(cs.drop i).take 1=[cs[i]]:=by
      rw[act hlt];rfl
     refine⟨d,fun _=>⟨⟨cs[i],abd hlt,q3 0 cs[i] d (by rw[e];rfl) rfl⟩,q2 d aa3,hg⟩⟩
   · exact⟨.Dp,fun h=>absurd h hi⟩
 refine⟨(List.range fs.size).map fun i=>(key i).choose,⟨by simp[hl],fun c hc=> ?_,fun i v c h1 h2=> ?_⟩,by simp,fun i hi=>⟨(key i).choose,by simp[hi],((key i).choose_spec hi).2.2⟩⟩
 · obtain⟨i,hi,rfl⟩:=ac0.1 hc
   exact((key i).choose_spec (List.mem_range.1 hi)).2.1
 · have hi:i<fs.size:=by
     have:=(abg.1 h1).1;omega
   rw[abu,List.getElem?_range hi] at h2;cases h2;obtain⟨⟨v',h3,h4⟩,_⟩:=(key i).choose_spec hi;rw[h1] at h3;cases h3;exact h4
theorem ey {G G':List D→Prop} (h:IsF P w n t G) (hg:∀ xs,G xs→G' xs):IsF P w n t G':=fun H enc base spare held cs x hx=>let⟨xs,h1,h2⟩:=h H enc base spare held cs x hx;⟨xs,h1,hg xs h2⟩
theorem bhc:∀ es:List D,(∀ d∈es,∃ b:Tx,d= .str b)→∃ l:List Tx,es=l.map D.str
 | [],_=>⟨[],rfl⟩
 | d::es,h=>by
  obtain⟨b,rfl⟩:=h d aa3;obtain⟨l,rfl⟩:=bhc es fun d hd=>h d (by simp[hd])
  exact⟨b::l,rfl⟩
theorem WK {e:TypeId} (ht:P.underlying t=some (.slice e)) (he:P.underlying e=some .string) (hz:P.cellsOf e=1):IsF P w n t fun xs=>∃ l:List Tx,xs=[.sl (l.map D.str)]∧l.length≤maxLen:=by
 refine ey (IsF.slice (P:=P) (w:=w) (n:=n) ht aa1 (fun m _=>IsF.str he) mkD (fun xs hx _=>by obtain⟨s,rfl,_⟩:=hx;rfl)) fun xs ⟨es,hx,hl,hes⟩=> ?_
 obtain⟨l,rfl⟩:=bhc es fun d hd=>by
  obtain⟨ys,⟨s,rfl,_⟩,_,rfl⟩:=hes d hd;exact⟨s,rfl⟩
 exact⟨l,hx,by simpa using hl⟩
end
def S7:Ty→Prop:=fun t=>∀ m,FP m t
theorem avb {α:Type} {f:α→D} {p:α→Prop}:∀ es:List D,(∀ d∈es,∃ x,d=f x∧p x)→∃ l:List α,es=l.map f∧∀ x∈l,p x
 | [],_=>⟨[],rfl,by simp⟩
 | d::es,h=>by
  obtain⟨x,rfl,hx⟩:=h d aa3;obtain⟨l,rfl,hl⟩:=avb es fun d hd=>h d (by simp[hd])
  exact⟨x::l,rfl,fun y hy=>by
   rcases abr.1 hy with e|e
   · rw[e];exact hx
   · exact hl y e⟩
theorem Sl {n:Nat} (h:n≤maxLen):n<2 ^ 63:=by unfold maxLen at h;omega
theorem bew {m:Int} (h:(Lit.int .i64 m).wf=true):inI m:=by
 simp[Lit.wf,IntKind.min,IntKind.max,IntKind.signed,IntKind.bits] at h;unfold inI;omega
theorem gF {w:World}:∀ n,IsF Tryz.prog w n 25 fun xs=>∃ t:Ty,xs=t.d.cells∧S7 t:=by
 intro n
 induction n using Nat.strongRecOn with
 | _ n IH=>
  let G:Nat→D→Prop:=fun i d=>match i with
    |1=>∃ l:List Tx,d= .sl (l.map D.str)∧l.length≤maxLen
    |2=>∃ l:List Ty,d= .sl (l.map Ty.d)∧l.length≤maxLen∧∀ k∈l,S7 k
    |_=>∃ m,d= .int .i64 m
  have hint:∀ m,IsF Tryz.prog w m 3 fun xs=>∃ d,xs=[d]∧∃ m,d= .int .i64 m:=fun m=>ey (IsF.int Tryz.underlying3) fun xs ⟨k,hx,_⟩=>⟨_,hx,k,rfl⟩
  refine ey (xf (G:=G) Tryz.underlying25 (show Tryz.prog.cellsOf 25=6 by kernel_rfl) (fun i f hf=> ?_) (fun m hm i f hf=> ?_)) fun xs ⟨hl,hx⟩=> ?_
  · match i,hf with
    |0,hf=>cases hf;exact⟨rfl,by kernel_rfl⟩
    |1,hf=>cases hf;exact⟨rfl,by kernel_rfl⟩
    |2,hf=>cases hf;exact⟨rfl,by kernel_rfl⟩
    |3,hf=>cases hf;exact⟨rfl,by kernel_rfl⟩
    |4,hf=>cases hf;exact⟨rfl,by kernel_rfl⟩
    |5,hf=>cases hf;exact⟨rfl,by kernel_rfl⟩
    |i+6,hf=>simp at hf
  · match i,hf with
    |0,hf=>cases hf;exact hint m
    |1,hf=>cases hf;exact ey (WK Tryz.underlying22 Tryz.underlying9 aa2) fun xs ⟨l,hx,hl⟩=>⟨_,hx,l,rfl,hl⟩
    | 2,hf=>
      cases hf;refine ey (IsF.slice (P:=Tryz.prog) (w:=w) (n:=m) Tryz.underlying23 (by rw[show Tryz.prog.cellsOf 25=6 by kernel_rfl];decide) (fun k hk=>IH k aa1) D.agg (fun xs _ _=>rfl)) fun xs ⟨es,hx,hl,hes⟩=> ?_
      obtain⟨l,rfl,hp⟩:=avb (f:=Ty.d) (p:=S7) es fun d hd=>by
       obtain⟨ys,⟨t,rfl,ht⟩,_,rfl⟩:=hes d hd;exact⟨t,by rw[CT,ZN],ht⟩
      exact⟨_,hx,l,rfl,by simpa using hl,hp⟩
    |3,hf=>cases hf;exact hint m
    |4,hf=>cases hf;exact hint m
    |5,hf=>cases hf;exact hint m
    |i+6,hf=>simp at hf
  · have hl':xs.length=6:=hl
    obtain⟨d0,e0,k,rfl⟩:=hx 0 (show 0<6 by decide)
    obtain⟨d1,e1,ns,rfl,hns⟩:=hx 1 (show 1<6 by decide)
    obtain⟨d2,e2,ks,rfl,hks,hki⟩:=hx 2 (show 2<6 by decide)
    obtain⟨d3,e3,l,rfl⟩:=hx 3 (show 3<6 by decide)
    obtain⟨d4,e4,p,rfl⟩:=hx 4 (show 4<6 by decide)
    obtain⟨d5,e5,s,rfl⟩:=hx 5 (show 5<6 by decide)
    refine⟨.mk k ns ks l p s,?_,fun m=> ?_⟩
    · match xs,hl',e0,e1,e2,e3,e4,e5 with
      | [a,b,c,d,e,f],_,e0,e1,e2,e3,e4,e5=>
       cases e0;cases e1;cases e2;cases e3;cases e4;cases e5;rw[CT];rfl
    · cases m with
      |zero=>trivial
      |succ m=>exact⟨Sl hns,Sl hks,fun x hx=>hki x hx m⟩
theorem aaz {W:World} {cs:Array Value} {d:D} (hd:d= .agg d.cells) (h:Rds W cs.toList d.cells):Rd DD W (.agg cs) d:=by
 obtain⟨h1,h2,h3⟩:=h;rw[hd];exact Rd.agg cs.toList d.cells h1 h2 h3
section
variable {W:World} {H:Type} {enc:TypeId×Value→H} {base:Nat} {spare:Nat→Bool} {held:Bool} {cs:Array Value} {x:DataW H×List MemPlace}
theorem YY (h:∃ fuel,DataW.trod enc Tryz.prog W base spare held fuel 25 (Value.agg cs).cells.toList=some x):∃ t:Ty,S7 t∧Rd DD W (.agg cs) t.d:=by
 obtain⟨fuel,hf⟩:=h;obtain⟨xs,hr,t,rfl,ht⟩:=gF fuel H enc base spare held _ _ hf;exact⟨t,ht,aaz (by rw[CT];exact t.EM) hr⟩
end
end Go.Proofs.YtpnhljhciibfnaaGreatDoor
namespace Go.Proofs.YtpnhljhciibfnaaGreatDoor
open Go Go.Ev Go.RowKit
set_option maxHeartbeats 4000000
set_option maxRecDepth 10000
theorem br8:∀ {l:List Va},(∀ v∈l,okV v)→Eo l
 | [],_=>trivial
 |v::l,h=>⟨h v aa3,br8 fun x hx=>h x (by simp[hx])⟩
theorem WJ {w:World}:∀ n,IsF Tryz.prog w n 29 fun xs=>∃ v:Va,xs=v.d.cells∧okV v:=by
 intro n
 induction n using Nat.strongRecOn with
 | _ n IH=>
  let G:Nat→D→Prop:=fun i d=>match i with
    |0=>∃ b,d= .bool b
    |3=>∃ b:Tx,d=txt b∧b.length≤maxLen
    |4=>∃ l:List Va,d= .sl (l.map Va.d)∧l.length≤maxLen∧∀ k∈l,okV k
    |_=>∃ m,d= .int .i64 m∧inI m
  refine ey (xf (G:=G) Tryz.underlying29 (show Tryz.prog.cellsOf 29=5 by kernel_rfl) (fun i f hf=> ?_) (fun m hm i f hf=> ?_)) fun xs ⟨hl,hx⟩=> ?_
  · match i,hf with
    |0,hf=>cases hf;exact⟨rfl,by kernel_rfl⟩
    |1,hf=>cases hf;exact⟨rfl,by kernel_rfl⟩
    |2,hf=>cases hf;exact⟨rfl,by kernel_rfl⟩
    |3,hf=>cases hf;exact⟨rfl,by kernel_rfl⟩
    |4,hf=>cases hf;exact⟨rfl,by kernel_rfl⟩
    |i+5,hf=>simp at hf
  · match i,hf with
    |0,hf=>cases hf;exact ey (IsF.bool Tryz.underlying4) fun xs ⟨b,hx⟩=>⟨_,hx,b,rfl⟩
    |1,hf=>cases hf;exact ey (IsF.int Tryz.underlying2) fun xs ⟨k,hx,hw⟩=>⟨_,hx,k,rfl,bew hw⟩
    |2,hf=>cases hf;exact ey (IsF.int Tryz.underlying3) fun xs ⟨k,hx,hw⟩=>⟨_,hx,k,rfl,bew hw⟩
    |3,hf=>cases hf;exact ey (Y4 Tryz.underlying26 Tryz.underlying5 aa2) fun xs ⟨b,hx,hl⟩=>⟨_,hx,b,rfl,hl⟩
    | 4,hf=>
      cases hf;refine ey (IsF.slice (P:=Tryz.prog) (w:=w) (n:=m) Tryz.underlying27 (by rw[show Tryz.prog.cellsOf 29=5 by kernel_rfl];decide) (fun k hk=>IH k aa1) D.agg (fun xs _ _=>rfl)) fun xs ⟨es,hx,hl,hes⟩=> ?_
      obtain⟨l,rfl,hp⟩:=avb (f:=Va.d) (p:=okV) es fun d hd=>by
       obtain⟨ys,⟨t,rfl,ht⟩,_,rfl⟩:=hes d hd;exact⟨t,by rw[FF,ZM],ht⟩
      exact⟨_,hx,l,rfl,by simpa using hl,hp⟩
    |i+5,hf=>simp at hf
  · have hl':xs.length=5:=hl
    obtain⟨d0,e0,nl,rfl⟩:=hx 0 (show 0<5 by decide)
    obtain⟨d1,e1,i,rfl,hi⟩:=hx 1 (show 1<5 by decide)
    obtain⟨d2,e2,m,rfl,hm⟩:=hx 2 (show 2<5 by decide)
    obtain⟨d3,e3,b,rfl,hb⟩:=hx 3 (show 3<5 by decide)
    obtain⟨d4,e4,ks,rfl,hks,hki⟩:=hx 4 (show 4<5 by decide)
    refine⟨.mk nl i m b ks,?_,?_⟩
    · match xs,hl',e0,e1,e2,e3,e4 with
      | [a,b,c,d,e],_,e0,e1,e2,e3,e4=>
       cases e0;cases e1;cases e2;cases e3;cases e4;rw[FF];rfl
    · rw[CA]
      exact⟨hi,Sl hb,Sl hks,br8 hki⟩
theorem Rds.append {w:World} {a b:List Value} {xs ys:List D} (h:Rds w a xs) (k:Rds w b ys):Rds w (a++b) (xs++ys):=by
 obtain⟨h1,h2,h3⟩:=h;obtain⟨k1,k2,k3⟩:=k;refine⟨by simp[h1,k1],fun c hc=> ?_,fun i v c e1 e2=> ?_⟩
 · rcases ab1.1 hc with hc|hc
   · exact h2 c hc
   · exact k2 c hc
 · by_cases hi:i<a.length
   · rw[aco hi] at e1
     rw[aco aa1] at e2;exact h3 i v c e1 e2
   · rw[List.getElem?_append_right aa1] at e1
     rw[List.getElem?_append_right aa1,← h1] at e2;exact k3 _ v c e1 e2
def X8 (s:Sv):Prop:=okV s.mn∧okV s.mx∧inI s.sum∧inI s.cnt
theorem gG {w:World} (n:Nat):IsF Tryz.prog w n 31 fun xs=>∃ s:Sv,xs=s.cs∧X8 s:=by
 intro H enc base spare held cs x h;obtain⟨ys,m,rfl,_,hl,hyl,hy⟩:=DataW.trod_struct Tryz.underlying31 h;rw[show Tryz.prog.cellsOf 31=15 by kernel_rfl] at hl
 have hyl:ys.length=7:=hyl
 match cs,hl,ys,hyl with
 | [c0,c1,c2,c3,c4,c5,c6,c7,c8,c9,c10,c11,c12,c13,c14],_,[e0,e1,e2,e3,e4,e5,e6],_=>
  have h0:DataW.trod enc Tryz.prog w base spare held m 2 (([c0,c1,c2,c3,c4,c5,c6,c7,c8,c9,c10,c11,c12,c13,c14].drop 0).take (Tryz.prog.cellsOf 2))=some _:=hy 0 ⟨"Count",2,0,false,"","",0⟩ rfl;have h1:DataW.trod enc Tryz.prog w base spare held m 4 (([c0,c1,c2,c3,c4,c5,c6,c7,c8,c9,c10,c11,c12,c13,c14].drop 1).take (Tryz.prog.cellsOf 4))=some _:=hy 1 ⟨"Null",4,1,false,"","",8⟩ rfl;have h2:DataW.trod enc Tryz.prog w base spare held m 4 (([c0,c1,c2,c3,c4,c5,c6,c7,c8,c9,c10,c11,c12,c13,c14].drop 2).take (Tryz.prog.cellsOf 4))=some _:=hy 2 ⟨"Has",4,2,false,"","",9⟩ rfl;have h3:DataW.trod enc Tryz.prog w base spare held m 29 (([c0,c1,c2,c3,c4,c5,c6,c7,c8,c9,c10,c11,c12,c13,c14].drop 3).take (Tryz.prog.cellsOf 29))=some _:=hy 3 ⟨"Min",29,3,false,"","",16⟩ rfl;have h4:DataW.trod enc Tryz.prog w base spare held m 29 (([c0,c1,c2,c3,c4,c5,c6,c7,c8,c9,c10,c11,c12,c13,c14].drop 8).take (Tryz.prog.cellsOf 29))=some _:=hy 4 ⟨"Max",29,8,false,"","",88⟩ rfl;have h5:DataW.trod enc Tryz.prog w base spare held m 4 (([c0,c1,c2,c3,c4,c5,c6,c7,c8,c9,c10,c11,c12,c13,c14].drop 13).take (Tryz.prog.cellsOf 4))=some _:=hy 5 ⟨"Sums",4,13,false,"","",160⟩ rfl;have h6:DataW.trod enc Tryz.prog w base spare held m 2 (([c0,c1,c2,c3,c4,c5,c6,c7,c8,c9,c10,c11,c12,c13,c14].drop 14).take (Tryz.prog.cellsOf 2))=some _:=hy 6 ⟨"Sum",2,14,false,"","",168⟩ rfl;rw[show Tryz.prog.cellsOf 2=1 by kernel_rfl] at h0 h6
  rw[show Tryz.prog.cellsOf 4=1 by kernel_rfl] at h1 h2 h5
  rw[show Tryz.prog.cellsOf 29=5 by kernel_rfl] at h3 h4
  obtain⟨y0,r0,k0,rfl,w0⟩:=IsF.int Tryz.underlying2 H enc base spare held _ _ h0;obtain⟨y1,r1,k1,rfl⟩:=IsF.bool Tryz.underlying4 H enc base spare held _ _ h1;obtain⟨y2,r2,k2,rfl⟩:=IsF.bool Tryz.underlying4 H enc base spare held _ _ h2;obtain⟨y3,r3,k3,rfl,w3⟩:=WJ m H enc base spare held _ _ h3;obtain⟨y4,r4,k4,rfl,w4⟩:=WJ m H enc base spare held _ _ h4;obtain⟨y5,r5,k5,rfl⟩:=IsF.bool Tryz.underlying4 H enc base spare held _ _ h5;obtain⟨y6,r6,k6,rfl,w6⟩:=IsF.int Tryz.underlying2 H enc base spare held _ _ h6;refine⟨_,?_,⟨k0,k1,k2,k3,k4,k5,k6⟩,rfl,w3,w4,bew w6,bew w0⟩;have:=Rds.append r0 (Rds.append r1 (Rds.append r2 (Rds.append r3 (Rds.append r4 (Rds.append r5 r6)))));rw[FF,FF] at this;exact this
section
variable {W:World} {H:Type} {enc:TypeId×Value→H} {base:Nat} {spare:Nat→Bool} {held:Bool} {cs:Array Value} {x:DataW H×List MemPlace}
theorem YZ (h:∃ fuel,DataW.trod enc Tryz.prog W base spare held fuel 31 (Value.agg cs).cells.toList=some x):∃ s:Sv,X8 s∧Rd DD W (.agg cs) s.d:=by
 obtain⟨fuel,hf⟩:=h;obtain⟨xs,hr,s,rfl,hs⟩:=gG fuel H enc base spare held _ _ hf;exact⟨s,hs,aaz (d:= .agg s.cs) rfl hr⟩
end
