import Derived.Test.YtkdiccgfbfbjlaaGreatL1
import Derived.Laws.Strings
import Derived.Lib.Strings
import Derived.Laws.BytesString
import Derived.Laws.StructEq
import Derived.Laws.Tables
namespace Go.Ev
open Go
section
variable {F:Nat→Prop} {w:World} {v:Value}
theorem Rd.Cc {b:Bool} (h:Rd F w v (.bool b)):v= .bool b:=by cases h;rfl
theorem Rd.Ar {k:IntKind} {n:Int} (h:Rd F w v (.int k n)):v= .int k n:=by cases h;rfl
theorem Rd.DB {s:List UInt8} (h:Rd F w v (.str s)):v= .string ⟨s.toArray⟩:=by cases h;rfl
theorem Rd.Dm (h:Rd F w v .AL):∃ ad,v= .slice ad 0 0:=by cases h;exact⟨_,rfl⟩
theorem Rd.Hc (h:Rd F w v .Cy):∃ b,v= .bool b:=by cases h;exact⟨_,rfl⟩
theorem Rd.UM (h:Rd F w v .Be):v= .nilIface:=by cases h;rfl
theorem Rd.kU {f:FuncId} (h:Rd F w v (.fn f)):v= .func (.func f) #[] #[]:=by cases h;rfl
theorem Rd.EE {es:List D} (h:Rd F w v (.sl es)):∃ ad cap,v= .slice ad es.length cap∧es.length≤cap:=by
 cases h with
 |slA ad cap=>exact⟨ad,cap,rfl,aco _⟩
 |sl b o len cap z es vs hlen Ad=>exact⟨some (ad3 b o),cap,by rw[hlen],by omega⟩
theorem Rd.DY {d:D} (h:Rd F w v d) (hd:d.AP=true):v.oneCell'=true:=by
 cases h<;>first|rfl|assumption|simp[D.AP] at hd
theorem Rd.can {d:D} (h:Rd F w v d):Rd F w v d.can:=by
 cases h<;>first|exact .slA _ _| (constructor<;>assumption)
theorem D.E5 {d:D} (h:d.AP=true):d.can.AP=true:=by cases d<;>first|rfl|exact h
theorem Rd.DF {d:D} (h:Rd F w v d):Rd F w v d.DF:=by
 cases h with
 | agg vs cs hl hc h=>
  refine .agg vs _ (by simpa using hl) (fun c hc'=> ?_) (fun i v c h1 h2=> ?_)
  · obtain⟨c',h1,rfl⟩:=adl.1 hc'
    exact D.E5 (hc c' h1)
  · rw[acf] at h2
    cases hd:cs[i]? with
    |none=>rw[hd] at h2;cases h2
    |some c'=>rw[hd] at h2;cases h2;exact(h i v c' h1 hd).can
 |AL ad=>exact .slA ad 0
 |_=>constructor<;>assumption
theorem Rd.canon {d:D} (h:Rd F w v d):Rd F w v d.canon:=by
 cases h with
 | tup vs cs hl h=>
  refine .tup vs _ (by simpa using hl) (fun i v c h1 h2=> ?_)
  rw[acf] at h2;cases hd:cs[i]? with
  |none=>rw[hd] at h2;cases h2
  |some c'=>rw[hd] at h2;cases h2;exact(h i v c' h1 hd).DF
 |agg vs cs hl hc h=>exact Rd.DF (.agg vs cs hl hc h)
 |AL ad=>exact .slA ad 0
 |_=>constructor<;>assumption
theorem ar2 {d:D} (h:Fl v=some d):Rd F w v d∧d.AP=true:=by
 unfold Fl at h;split at h<;>first| (cases h;exact⟨by constructor,rfl⟩)|cases h
theorem ar1:∀ (vs:List Value) (ds:List D),Hb vs=some ds→vs.length=ds.length∧(∀ c∈ds,c.AP=true)∧∀ (i:Nat) v c,vs[i]? =some v→ds[i]? =some c→Rd F w v c
 | [],ds,h=>by cases h;simp
 | v::r,ds,h=>by
  unfold Hb at h;split at h
  · rename_i d ds' h1 h2
    cases h;obtain⟨i1,i2,i3⟩:=ar1 r ds' h2;have:=ar2 (F:=F) (w:=w) h1;refine⟨by simp[i1],?_,?_⟩
    · intro c hc
      rcases ach.1 hc with rfl|hc
      · exact this.2
      · exact i2 c hc
    · intro i v' c h3 h4
      cases i with
      |zero=>simp at h3 h4;subst h3;subst h4;exact this.1
      |succ i=>simp at h3 h4;exact i3 i v' c h3 h4
  · cases h
theorem jt {d:D} (h:Gv v=some d):Rd F w v d:=by
 unfold Gv at h;split at h
 · rename_i cs
   cases h1:Hb cs.toList with
   |none=>rw[h1] at h;cases h
   | some ds=>
    rw[h1] at h;cases h;obtain⟨i1,i2,i3⟩:=ar1 (F:=F) (w:=w) _ _ h1;exact .agg cs.toList ds i1 i2 i3
 · exact(ar2 h).1
theorem alm {d:D} (h:bL v=some d):Rd F w v d:=by
 simp only[bL,abz] at h;obtain⟨d',h1,rfl⟩:=h;exact(jt h1).canon
end
section
variable {P:Program} {cfg:Cfg} {x:Cx} {N dep:Nat} {s:Get} {a:Act} {w:World}
theorem RdV.An {l:Option Loc} {cv:Loc→Option Value} {v:Value} {y:D} (h:RdV x s cv w l v (.d y)):Rd (AE x) w v y:=by cases h;assumption
theorem bb (R:Rel cfg x N s a w) {X:Operand} {ix:AB} (hX:Ah X=some ix) {y:V} (hy:val cfg s ix=some y):
  ∃ l,RdV x s (Aa x a w) w l (a.eval X) y∧∀ k,ix= .t k→l=some (.slot k)∧X= .tmp k:=by
 cases X with
 | tmp t=>
  cases hX;obtain⟨u,hu,hr⟩:=R.Bl (.slot t) y hy;refine⟨some (.slot t),?_,fun k e=>by cases e;exact⟨rfl,rfl⟩⟩
  simp only[Aa,Option.some.injEq] at hu;show RdV x s (Aa x a w) w _ (a.tmps.getD t undef) y;rw[hu];exact hr
 | const v=>
  simp only[Ah,abz] at hX;obtain⟨d,hd,rfl⟩:=hX;cases hy;exact⟨none,.d _ _ _ (jt hd),fun k e=>by cases e⟩
 | global g=>
  cases hX;simp only[val,abz] at hy;obtain⟨e,he,rfl⟩:=hy;exact⟨none,.Af none g 0 0 e (R.C7 g e he),fun k e=>by cases e⟩
 | func f=>
  cases hX;cases hy;exact⟨none,.d _ _ _ (.fn f),fun k e=>by cases e⟩
def Az (P:Program) (cfg:Cfg) (x:Cx) (N dep:Nat) (s':Get) (a:Act) (w:World) (o:Oper):Prop:=
 ∃ v w' x',((execOp a.eval o).run P w= .ok (.value v) w'∨((execOp a.eval o).run P w= .ok .skip w'∧v=undef))∧Rel cfg x' N s' (a.put o.dst v) w'∧Fr dep x x' w w'
theorem ap (R:Rel cfg x N s a w) {o:Oper} {k:Nat} (hd:o.dst=some k) (hk:k<N) {v:Value} {y:V} (AW:(execOp a.eval o).run P w= .ok (.value v) w)
  (hy:y.A5=false) {l:Option Loc} (hv:RdV x s (Aa x a w) w l v y):Az P cfg x N dep (AK s (AG o.dst y)) a w o:=by
 refine⟨v,w,x,.inl AW,?_,Fr.refl _ _ _⟩;rw[hd];exact R.put hk hy hv
theorem a6 (R:Rel cfg x N s a w) {o:Oper} {k:Nat} (hd:o.dst=some k) (hk:k<N) {v:Value} {y:D} (AW:(execOp a.eval o).run P w= .ok (.value v) w)
  (hv:Rd (AE x) w v y):Az P cfg x N dep (AK s (AG o.dst (.d y))) a w o:=
 ap R hd hk AW rfl (l:=none) (.d _ _ _ hv)
end
theorem bay (P:Program) (w:World) (F:Nat→Prop) {op:BinOp} {k k':IntKind} {n m:Int} {r:D} (t:TypeId) (h:aw op k n k' m=some r):
  ∃ v,(binOp op t (.int k n) (.int k' m)).run P w= .ok v w∧Rd F w v r:=by
 cases op<;>simp only[aw] at h
 case shl=>
  split at h
  · cases h
  · cases h;rename_i hm;exact⟨_,by simp only[binOp,Op.shift,hm,if_false];rfl,.int _ _⟩
 case shr=>
  split at h
  · cases h
  · cases h;rename_i hm;exact⟨_,by simp only[binOp,Op.shift,hm,if_false];rfl,.int _ _⟩
 case quo=>
  split at h
  · rename_i hm;obtain⟨rfl,hm⟩:=hm;cases h;exact⟨_,by simp only[binOp,Op.intDiv,hm,if_false,ne_eq,ac2];rfl,.int _ _⟩
  · cases h
 case rem=>
  split at h
  · rename_i hm;obtain⟨rfl,hm⟩:=hm;cases h;exact⟨_,by simp only[binOp,Op.intDiv,hm,if_false,ne_eq,ac2];rfl,.int _ _⟩
  · cases h
 all_goals
  split at h
  · rename_i hk;subst hk;cases h
    refine⟨_,by simp only[binOp,if_false,ne_eq,ac2];rfl,?_⟩
    first|exact .int _ _|exact .bool _
  · cases h
theorem baw (P:Program) (w:World) (F:Nat→Prop) {op:BinOp} {p q:List UInt8} {r:D} (t:TypeId) (h:f6 op p q=some r):
  ∃ v,(binOp op t (.string ⟨p.toArray⟩) (.string ⟨q.toArray⟩)).run P w= .ok v w∧Rd F w v r:=by
 have hp:(⟨p.toArray⟩:ByteArray).toList=p:=ByteArray.toList_mk p;have hq:(⟨q.toArray⟩:ByteArray).toList=q:=ByteArray.toList_mk q;cases op<;>simp only[f6] at h
 case add=>
  split at h
  · cases h
    rename_i hm;refine⟨.string (⟨p.toArray⟩++⟨q.toArray⟩),?_,?_⟩
    · have hs:((⟨p.toArray⟩:ByteArray).size+(⟨q.toArray⟩:ByteArray).size:Nat)=p.length+q.length:=by simp[ByteArray.size]
      have:¬ (((⟨p.toArray⟩:ByteArray).size+(⟨q.toArray⟩:ByteArray).size:Nat):Int)>IntKind.i64.max:=by
       rw[hs];simp only[blh] at hm;simp only[IntKind.max];simp[IntKind.signed,IntKind.bits];omega
      simp only[binOp,Op.stringOp,this,if_false];rfl
    · have:(⟨p.toArray⟩++⟨q.toArray⟩:ByteArray)=⟨(p++q).toArray⟩:=by
       apply ByteArray.ext;apply Array.ext';simp
      rw[this];exact .str _
  · cases h
 all_goals
  first
  |cases h
  |skip
 all_goals
  refine⟨_,by simp only[binOp,Op.stringOp,hp,hq];rfl,?_⟩
  exact .bool _
end Go.Ev
namespace Go.Ev
open Go
section
variable {P:Program} {cfg:Cfg} {x:Cx} {N dep:Nat} {s:Get} {a:Act} {w:World}
theorem RdV.EW {l:Option Loc} {cv:Loc→Option Value} {v:Value} {nw:Bool} {z:Nat} {es:List D} (h:RdV x s cv w l v (.own nw z es)):
  ∃ l0 b o cap,l=some l0∧v= .slice (some (ad3 b o)) es.length cap∧x.ow b=some (.at l0)∧es.length≤cap∧Arr (AE x) w b o cap z es:=by
 cases h with
 |own l b o len cap z nw es how hlen Ad h=>exact⟨l,b,o,cap,rfl,by rw[hlen],how,by omega,h⟩
theorem Rel.Bi (R:Rel cfg x N s a w) {l0:Loc} {nw:Bool} {z:Nat} {es:List D} (h0:s l0=some (.own nw z es)):
  ∃ b o cap,Aa x a w l0=some (.slice (some (ad3 b o)) es.length cap)∧x.ow b=some (.at l0)∧es.length≤cap∧Arr (AE x) w b o cap z es:=by
 obtain⟨u,hu,hr⟩:=R.Bl l0 _ h0;obtain⟨l1,b,o,cap,h1,h2,h3,h4,h5⟩:=hr.EW;cases h1;exact⟨b,o,cap,by rw[hu,h2],h3,h4,h5⟩
theorem Rel.EN (R:Rel cfg x N s a w) {l:Option Loc} {v:Value} {l':Loc} {off len z:Nat} {es:List D} (h:RdV x s (Aa x a w) w l v (.bor l' off len)) (hs:s l'=some (.own false z es)):
   ∃ b o' cap',v= .slice (some (ad3 b o')) len cap'∧x.ow b=some (.at l')∧off+len≤es.length∧len≤cap'∧Arr (AE x) w b o' cap' z ((es.drop off).take len):=by
 cases h with
 |bor _ _ _ _ b o' cap' h4 h=>
 obtain⟨o,L,C,h1,h3,h5,h6⟩:=h z es hs;obtain⟨b2,o2,cap2,g1,g2,g3,g4⟩:=R.Bi hs;rw[h1] at g1;cases g1;refine⟨b,o',cap',rfl,g2,h3,h4,g4.pos,h6,fun e he=>g4.wid e (adc (ade he)),fun e he=>g4.cel e (adc (ade he)),fun i e he j c hj=> ?_⟩
 rw[List.getElem?_take] at he;split at he
 · rename_i hi
   rw[List.getElem?_drop] at he;obtain⟨v,q1,q2⟩:=g4.els (off+i) e he j c hj;refine⟨v,?_,q2⟩;rcases h5 with⟨h5,_⟩|h5
   · omega
   · rw[h5,show o+off*z+i*z+j=o+(off+i)*z+j by rw[ac6];omega]
     exact q1
 · cases he
theorem Rel.ZE (R:Rel cfg x N s a w) {l:Option Loc} {v:Value} {l':Loc} {off len z:Nat} {es:List D} (h:RdV x s (Aa x a w) w l v (.bor l' off len)) (hs:s l'=some (.own false z es)):
   ∃ b o' cap',v= .slice (some (ad3 b o')) len cap'∧(∃ o L C,Aa x a w l'=some (.slice (some (ad3 b o)) L C))∧off+len≤es.length∧len≤cap'∧Arr (AE x) w b o' cap' z ((es.drop off).take len):=by
 cases h with
 |bor _ _ _ _ b o' cap' h4 h=>
 obtain⟨o,L,C,h1,h3,h5,h6⟩:=h z es hs;obtain⟨b2,o2,cap2,g1,g2,g3,g4⟩:=R.Bi hs;rw[h1] at g1;cases g1;refine⟨b,o',cap',rfl,⟨_,_,_,h1⟩,h3,h4,g4.pos,h6,fun e he=>g4.wid e (adc (ade he)),fun e he=>g4.cel e (adc (ade he)),fun i e he j c hj=> ?_⟩
 rw[List.getElem?_take] at he;split at he
 · rename_i hi
   rw[List.getElem?_drop] at he;obtain⟨v,q1,q2⟩:=g4.els (off+i) e he j c hj;refine⟨v,?_,q2⟩;rcases h5 with⟨h5,_⟩|h5
   · omega
   · rw[h5,show o+off*z+i*z+j=o+(off+i)*z+j by rw[ac6];omega]
     exact q1
 · cases he
theorem uw {ix:AB} {y:V} (hy:val cfg s ix=some y) (h:∀ k,ix≠ .t k):y.A5=false:=by
 cases ix with
 |t k=>exact absurd rfl (h k)
 |c d=>cases hy;rfl
 | g n=>
  simp only[val,abz] at hy;obtain⟨e,_,rfl⟩:=hy;rfl
theorem Rel.EY (R:Rel cfg x N s a w) {k:Nat} (hk:k<N) {l0:Loc} {nw:Bool} {z:Nat} {es:List D} (h0:s l0=some (.own nw z es))
   {b:Nat} (how:x.ow b=some (.at l0)) {o len cap:Nat} {B8:List D} (hA:Arr (AE x) w b o cap z B8) (hl:B8.length=len) (Ad:len≤cap):
   Rel cfg (x.AU b (some (.at (.slot k)))) N (AK s [(.slot k,.own true z B8),(l0,.AM)]) (a.put (some k) (.slice (some (ad3 b o)) len cap)) w:=by
 by_cases e:l0= .slot k
 · subst e
   have h1:=R.put hk (v:= .slice (some (ad3 b o)) len cap) (y:= .AM) rfl (l:=none) (.AM _ _);have hx:x.AU b (some (.at (.slot k)))=x:=by
    cases x with
    | mk ow ad=>
     simp only[Cx.AU,Cx.mk.injEq,and_true]
     funext b'
     split
     · rename_i e;rw[e];exact how.symm
     · rfl
   rw[hx];exact h1.congr (fun l=>by simp only[bc,mp];split<;>rfl)
 · exact R.hand hk e h0 how hA hl Ad
theorem cA (R:Rel cfg x N s a w) {o:Oper} {X:Operand} (ho:o.op= .move X∨o.op= .assign X) {k:Nat} (hd:o.dst=some k) (hk:k<N) {ix:AB} (hX:Ah X=some ix) {y:V} (hy:val cfg s ix=some y)
   {u:List (Loc×V)} (hu:Dr (some k) ix y=some u):Az P cfg x N dep (AK s u) a w o:=by
 obtain⟨l,hr,hl⟩:=bb R hX hy;have AW:(execOp a.eval o).run P w= .ok (.value (a.eval X)) w:=by
   rcases ho with ho|ho<;>simp[execOp,ho]
 unfold Dr at hu;split at hu
 · rename_i j z es
   cases hu;obtain⟨hl1,rfl⟩:=hl j rfl;subst hl1;rw[show AG (some k) (V.bor (.slot j) 0 es.length)=AG o.dst (V.bor (.slot j) 0 es.length) by rw[hd]]
   have he:s (.slot j)=some (.own false z es):=hy;obtain⟨b,o',cap,g1,g2,g3,g4⟩:=R.Bi he;have hv:a.eval (.tmp j)= .slice (some (ad3 b o')) es.length cap:=by simpa[Aa,Act.eval] using g1
   rw[hv] at AW;refine ap R hd hk AW rfl (l:=none) (.bor _ _ _ _ _ _ _ g3 fun z' B8 hs=> ?_)
   rw[he] at hs;cases hs;exact⟨o',_,cap,g1,by omega,.inr abu,g4.room⟩
 · rename_i j z es
   cases hu;obtain⟨hl1,rfl⟩:=hl j rfl;have he:s (.slot j)=some (.own true z es):=hy;obtain⟨b,o',cap,g1,g2,g3,g4⟩:=R.Bi he;refine⟨a.eval (.tmp j),w,x.AU b (some (.at (.slot k))),.inl AW,?_,Fr.AU g2 _⟩;have hv:a.eval (.tmp j)= .slice (some (ad3 b o')) es.length cap:=by simpa[Aa,Act.eval] using g1
   rw[hv,hd];exact R.EY hk he g2 g4 rfl g3
 · cases hu
 · rename_i h1 h2 h3
   cases hu;have hn:y.A5=false:=by
    by_cases hix:∃ j,ix= .t j
    · obtain⟨j,rfl⟩:=hix
      cases y<;>first|rfl| (rename_i nw z es;cases nw<;>simp_all;done)|simp_all
    · exact uw hy (fun j e=>hix ⟨j,e⟩)
   rw[show AG (some k) y=AG o.dst y by rw[hd]]
   exact ap R hd hk AW hn hr
theorem XN (R:Rel cfg x N s a w) {o:Oper} {X:Operand} (ho:o.op= .assign X) {k:Nat} (hd:o.dst=some k) (hk:k<N) {ix:AB} (hX:Ah X=some ix) {y:V} (hy:val cfg s ix=some y)
   {u:List (Loc×V)} (hu:Cz s (some k) ix y=some u):Az P cfg x N dep (AK s u) a w o:=by
 obtain⟨l,hr,hl⟩:=bb R hX hy;have AW:(execOp a.eval o).run P w= .ok (.value (a.eval X)) w:=by simp[execOp,ho]
 unfold Cz at hu;split at hu
 · rename_i j nw z es
   cases hu;obtain⟨hl1,rfl⟩:=hl j rfl;have he:s (.slot j)=some (.own nw z es):=hy;obtain⟨b,o',cap,g1,g2,g3,g4⟩:=R.Bi he;refine⟨a.eval (.tmp j),w,x.AU b (some (.at (.slot k))),.inl AW,?_,Fr.AU g2 _⟩;have hv:a.eval (.tmp j)= .slice (some (ad3 b o')) es.length cap:=by simpa[Aa,Act.eval] using g1
   rw[hv,hd];exact R.EY hk he g2 g4 rfl g3
 · rename_i l' off n
   split at hu
   · rename_i z es hs
     split at hu
     · rename_i hc
       obtain⟨rfl,rfl⟩:=hc;obtain⟨b,o',cap',g1,g2,g3,g4,g5⟩:=R.EN hr hs;simp only[List.drop_zero,List.take_length] at g5;split at hu
       · rename_i e
         cases hu;have e':l'= .slot k:=by simpa using e.symm
         subst e';refine⟨a.eval X,w,x,.inl AW,?_,Fr.refl _ _ _⟩;rw[g1,hd];have R1:=R.put hk (v:= .slice (some (ad3 b o')) es.length cap') (y:= .AM) rfl (l:=none) (.AM _ _);have R2:=R1.VW (l1:= .slot k) (y1:= .AM) (by simp[bc]) g2 (jl (by rw[R.size];exact hk)) g5 rfl g4
         exact R2.congr (fun l=>by simp only[bc,mp];split<;>rfl)
       · cases hu
         refine⟨a.eval X,w,x.AU b (some (.at (.slot k))),.inl AW,?_,Fr.AU g2 _⟩;rw[g1,hd];exact R.EY hk hs g2 g5 rfl g4
     · cases hu
   · cases hu
 · cases hu
 · cases hu
 · rename_i h1 h2 h3 h4
   cases hu;have hn:y.A5=false:=by
     by_cases hix:∃ j,ix= .t j
     · obtain⟨j,rfl⟩:=hix
       cases y<;>first|rfl| (rename_i nw z es;cases nw<;>simp_all;done)|simp_all
     · exact uw hy (fun j e=>hix ⟨j,e⟩)
   rw[show AG (some k) y=AG o.dst y by rw[hd]]
   exact ap R hd hk AW hn hr
end
end Go.Ev
namespace Go.Ev
open Go
section
variable {P:Program} {cfg:Cfg} {x:Cx} {N dep:Nat} {s:Get} {a:Act} {w:World}
theorem B9 (R:Rel cfg x N s a w) {X:Operand} {ix:AB} (hX:Ah X=some ix) {y:D} (hy:val cfg s ix=some (.d y)):Rd (AE x) w (a.eval X) y:=by
 obtain⟨l,hr,_⟩:=bb R hX hy;exact hr.An
theorem RdV.FF {l:Option Loc} {cv:Loc→Option Value} {v:Value} {e:D} (hr:RdV x s cv w l v (.Af e 0)):Rd (AE x) w v (.ptr e):=by
 cases hr with
 | Af l b o off e h=>
  obtain⟨h1,h2⟩:=h;have hv:∀ j,∃ v,∀ c,e.cells[j]? =some c→AE x b∧w.cell? (ad3 b (o+j))=some v∧Rd (AE x) w v c:=fun j=>by
   cases hc:e.cells[j]? with
   |none=>exact⟨undef,fun c h=>by cases h⟩
   |some c=>obtain⟨v,g1,g2,g3⟩:=h2 j c hc;exact⟨v,fun c' h=>by cases h;exact⟨g1,g2,g3⟩⟩
  exact .ptr b o e (fun j=>(hv j).choose) h1 (fun j c hc=>⟨((hv j).choose_spec c hc).1,((hv j).choose_spec c hc).2.1⟩) (fun j c hc=>((hv j).choose_spec c hc).2.2)
theorem tj (R:Rel cfg x N s a w) {X:Operand} {ix:AB} (hX:Ah X=some ix) {y:D} (hy:dat cfg s ix=some y):Rd (AE x) w (a.eval X) y:=by
 simp only[dat,ab7] at hy;obtain⟨v,hv,ha⟩:=hy;obtain⟨l,hr,_⟩:=bb R hX hv;unfold V.asD at ha;split at ha
 · cases ha;exact hr.An.canon
 · cases ha;exact hr.FF
 · cases ha
theorem bmz (R:Rel cfg x N s a w):∀ {Xs:List Operand} {ixs:List AB} (_:BM Xs=some ixs) {ys:List D} (_:Ec cfg s ixs=some ys),
  Xs.length=ys.length∧∀ (i:Nat) X y,Xs[i]? =some X→ys[i]? =some y→Rd (AE x) w (a.eval X) y
 | [],ixs,h,ys,h'=>by cases h;cases h';simp
 | X::Xs,ixs,h,ys,h'=>by
  unfold BM at h;split at h
  · rename_i ix ixs' h1 h2
    cases h;unfold Ec at h';split at h'
    · rename_i y ys' h3 h4
      cases h';obtain⟨g1,g2⟩:=bmz R h2 h4;refine⟨by simp[g1],fun i X' y' e1 e2=> ?_⟩
      cases i with
      |zero=>simp at e1 e2;subst e1;subst e2;exact tj R h1 h3
      |succ i=>simp at e1 e2;exact g2 i X' y' e1 e2
    · cases h'
  · cases h
theorem Ss (R:Rel cfg x N s a w) {o:Oper} {C A B:Operand} (ho:o.op= .pick C A B) {k:Nat} (hd:o.dst=some k) (hk:k<N)
   {c p q:AB} (hC:Ah C=some c) (hA:Ah A=some p) (hB:Ah B=some q) {t:Bool} (hc:val cfg s c=some (.d (.bool t)))
   {y:D} (hy:val cfg s (if t then p else q)=some (.d y)):Az P cfg x N dep (AK s (AG o.dst (.d y))) a w o:=by
 have h1:=(B9 R hC hc).Cc;cases t
 · refine a6 R hd hk (v:=a.eval B) ?_ (B9 R hB hy)
   simp[execOp,ho,h1,asBool]
 · refine a6 R hd hk (v:=a.eval A) ?_ (B9 R hA hy)
   simp[execOp,ho,h1,asBool]
theorem jy (op:BinOp) (t:TypeId) (X Y:Operand) {u v:Value} (h:(∀ n,u≠ .agg n)∧u≠ .nilIface):(eqGuard op t X Y u v).run P w= .ok () w:=by
 unfold eqGuard;cases op<;>try rfl
 all_goals
  cases u<;>first|rfl| (exact absurd rfl (h.1 _))| (exact absurd rfl h.2)
theorem XL (R:Rel cfg x N s a w) {o:Oper} {op:BinOp} {t t':TypeId} {X Y:Operand} (ho:o.op= .binOp op t X Y t') {k:Nat} (hd:o.dst=some k) (hk:k<N)
   {p q:AB} (hX:Ah X=some p) (hY:Ah Y=some q) {c d r:D} (hc:val cfg s p=some (.d c)) (hdd:val cfg s q=some (.d d)) (hr:D.bin op c d=some r):
   Az P cfg x N dep (AK s (AG o.dst (.d r))) a w o:=by
 have h1:=B9 R hX hc;have h2:=B9 R hY hdd;cases c<;>cases d<;>simp only[D.bin] at hr<;>try cases hr
 · have e1:=h1.Ar
   have e2:=h2.Ar;obtain⟨v,g1,g2⟩:=bay P w (AE x) t hr;refine a6 R hd hk (v:=v) ?_ g2;simp only[execOp,ho,e1,e2];simp[jy,g1]
 · have e1:=h1.DB
   have e2:=h2.DB;obtain⟨v,g1,g2⟩:=baw P w (AE x) t hr;refine a6 R hd hk (v:=v) ?_ g2;simp only[execOp,ho,e1,e2];simp[jy,g1]
theorem bZ (R:Rel cfg x N s a w) {o:Oper} {op:UnOp} {t:TypeId} {X:Operand} (ho:o.op= .unOp op t X) {k:Nat} (hd:o.dst=some k) (hk:k<N)
   {p:AB} (hX:Ah X=some p) {c r:D} (hc:val cfg s p=some (.d c)) (hr:D.un op c=some r):Az P cfg x N dep (AK s (AG o.dst (.d r))) a w o:=by
 have h1:=B9 R hX hc;cases c<;>simp only[D.un] at hr<;>try cases hr
 · have e1:=h1.Cc
   cases op<;>simp at hr;subst hr;refine a6 R hd hk (v:= .bool _) ?_ (.bool _);simp[execOp,ho,e1,Op.unary]
 · have e1:=h1.Ar
   cases op<;>simp only[Option.some.injEq,reduceCtorEq] at hr
   · subst hr
     refine a6 R hd hk (v:= .int _ _) ?_ (.int _ _);simp only[execOp,ho,e1,Op.unary,Op.intArith];rfl
   · subst hr
     refine a6 R hd hk (v:= .int _ _) ?_ (.int _ _);simp only[execOp,ho,e1,Op.unary,Op.intBits];rfl
theorem bc6 (R:Rel cfg x N s a w) {o:Oper} {t t':TypeId} {X:Operand} (ho:o.op= .convert t t' X) {k:Nat} (hd:o.dst=some k) (hk:k<N)
  {p:AB} (hX:Ah X=some p) {q q':IntKind} (ht:P.underlying t=some (.int q')) (ht':P.underlying t'=some (.int q)) {k':IntKind} {n:Int} (hc:val cfg s p=some (.d (.int k' n))):
  Az P cfg x N dep (AK s (AG o.dst (.d (.int q (q.wrap n))))) a w o:=by
 have e1:=(B9 R hX hc).Ar;refine a6 R hd hk (v:= .int q (q.wrap n)) ?_ (.int _ _);simp[execOp,ho,e1,convert,run_underlying ht,run_underlying ht',Conv.intToInt]
theorem sim_cvStr (R:Rel cfg x N s a w) {o:Oper} {t t':TypeId} {X:Operand} (ho:o.op= .convert t t' X) {k:Nat} (hd:o.dst=some k) (hk:k<N)
  {p:AB} (hX:Ah X=some p) (ht:P.underlying t=some .string) (ht':P.underlying t'=some .string) {b:List UInt8} (hc:val cfg s p=some (.d (.str b))):
  Az P cfg x N dep (AK s (AG o.dst (.d (.str b)))) a w o:=by
 have e1:=(B9 R hX hc).DB;refine a6 R hd hk (v:= .string ⟨b.toArray⟩) ?_ (.str _);simp[execOp,ho,e1,convert,run_underlying ht,run_underlying ht']
theorem XF (R:Rel cfg x N s a w) {o:Oper} {X:Operand} {i:Nat} (ho:o.op= .extract X i) {k:Nat} (hd:o.dst=some k) (hk:k<N)
  {p:AB} (hX:Ah X=some p) {ds:List D} (hc:val cfg s p=some (.d (.tup ds))) {r:D} (hr:ds[i]? =some r):Az P cfg x N dep (AK s (AG o.dst (.d r))) a w o:=by
 have h1:=B9 R hX hc;generalize hv:a.eval X=v at h1;cases h1 with
 | tup vs cs hl h=>
  have hi:i<vs.length:=by rw[hl];exact(ab1.1 hr).1
  refine a6 R hd hk (v:=vs[i]) ?_ (h i _ _ (ab0 hi) hr);simp[execOp,ho,hv,Instr.extract,hi]
theorem XD (R:Rel cfg x N s a w) {o:Oper} {t:TypeId} {X:Operand} (ho:o.op= .makeInterface t X) {k:Nat} (hd:o.dst=some k) (hk:k<N)
   {p:AB} (hX:Ah X=some p) {d:TypeDesc} (ht:P.underlying t=some d) (hni:∀ ms,d≠ .interface ms) {y:V} (hc:val cfg s p=some y)
   {u:List (Loc×V)} (hu:(match y with
    | .d c=>some (AG o.dst (.d (.ifc t c.canon)))
    | .ref d k off=>some (AG o.dst (.ifc t (.ref d k off)))
    | .Af e 0=>some (AG o.dst (.d (.ifc t (.ptr e))))
    |_=>none)=some u):Az P cfg x N dep (AK s u) a w o:=by
 have AW:(execOp a.eval o).run P w= .ok (.value (.iface t (a.eval X))) w:=by
   simp only[execOp,ho,Instr.makeInterface,Sem.run_bind,run_underlying ht,Result.andThen_ok];cases d<;>first|rfl|exact absurd rfl (hni _)
 obtain⟨l,hr,_⟩:=bb R hX hc;split at hu
 · cases hu
   exact a6 R hd hk AW (.ifc _ _ _ hr.An.canon)
 · cases hu
   exact ap R hd hk AW rfl (l:=none) (.ifc _ _ _ _ (hr.Cm rfl))
 · rename_i e0 hc0
   cases hu;refine a6 R hd hk AW (.ifc _ _ _ ?_);exact tj R hX (by simp[dat,hc0,V.asD])
 · cases hu
theorem bli (P:Program) (w:World) (F:Nat→Prop) (mx:Bool) (k:IntKind):∀ (vs:List Value) (ds:List D) (n:Int) (r:D),vs.length=ds.length→(∀ (i:Nat) v d,vs[i]? =some v→ds[i]? =some d→Rd F w v d)→
  minD.go mx k n ds=some r→∃ m,((if mx then vs.foldlM Builtin.max2 (.int k n) else vs.foldlM Builtin.min2 (.int k n)):Sem Value).run P w= .ok (.int k m) w∧r= .int k m
 | [],[],n,r,_,_,h=>by
  simp only[minD.go] at h;cases h;exact⟨n,by cases mx<;>simp,rfl⟩
 | v::vs,d::ds,n,r,hl,hr,h=>by
  have h0:=hr 0 v d rfl rfl;cases d<;>simp only[minD.go] at h<;>try cases h
  rename_i k' m;have e:=h0.Ar;subst e;obtain⟨m',g1,g2⟩:=bli P w F mx k vs ds _ r (by simpa using hl) (fun i v d e1 e2=>hr (i+1) v d (by simpa using e1) (by simpa using e2)) h
  refine⟨m',?_,g2⟩;cases mx
  · simp only[acb,if_false,List.foldlM_cons,Builtin.min2,pure_bind] at g1 ⊢
    exact g1
  · simp only[if_true,List.foldlM_cons,Builtin.max2,pure_bind] at g1 ⊢
    exact g1
theorem u7 (R:Rel cfg x N s a w) {o:Oper} {mx:Bool} {c:Call} (ho:o.op= .call c) (hb:c.callee= .builtin (if mx then .max else .min)) {k:Nat} (hd:o.dst=some k) (hk:k<N)
  {ps:List AB} (hX:BM c.args.toList=some ps) {ds:List D} (hc:Ec cfg s ps=some ds) {r:D} (hr:minD mx ds=some r):Az P cfg x N dep (AK s (AG o.dst (.d r))) a w o:=by
 obtain⟨g1,g2⟩:=bmz R hX hc;cases ds with
 |nil=>simp[minD] at hr
 | cons d ds=>
  cases hxs:c.args.toList with
  |nil=>rw[hxs] at g1;simp at g1
  | cons X Xs=>
   rw[hxs] at g1 g2;have h0:=g2 0 X d rfl rfl;cases d<;>simp only[minD] at hr<;>try cases hr
   rename_i q n;obtain⟨m,q1,rfl⟩:=bli P w (AE x) mx q (Xs.map a.eval) ds n r (by simpa using g1) (fun i v d e1 e2=>by
     rw[acf] at e1;cases hX:Xs[i]? with
     |none=>rw[hX] at e1;cases e1
     |some X'=>rw[hX] at e1;cases e1;exact g2 (i+1) X' d (by simpa using hX) (by simpa using e2)) hr
   refine a6 R hd hk (v:= .int q m) ?_ (.int _ _);have hargs:c.args.map a.eval=(a.eval X::Xs.map a.eval).toArray:=by
     apply Array.ext';simp[hxs]
   cases mx
   · simp only[acb,if_false] at hb q1
     simp only[execOp,ho,resolve,hb,invoke,builtin,Builtin.min_,hargs,Sem.run_bind,Sem.run_pure,Result.andThen_ok,h0.Ar,q1]
   · simp only[if_true] at hb q1
     simp only[execOp,ho,resolve,hb,invoke,builtin,Builtin.max_,hargs,Sem.run_bind,Sem.run_pure,Result.andThen_ok,h0.Ar,q1]
end
end Go.Ev
namespace Go.Ev
open Go
def aas (F:Nat→Prop) (w:World) (b o:Nat) (e:D):Prop:=
 (∀ c∈e.cells,c.AP=true)∧∀ (j:Nat) c,e.cells[j]? =some c→∃ v,w.cell? (ad3 b (o+j))=some v∧Rd F w v c
theorem C9.cells {F:Nat→Prop} {w:World} {b o:Nat} {e:D} (h:C9 F w b o e):aas F w b o e:=
 ⟨h.1,fun j c hj=>let⟨v,_,h1,h2⟩:=h.2 j c hj;⟨v,h1,h2⟩⟩
theorem Arr.cells {F:Nat→Prop} {w:World} {b o cap z:Nat} {es:List D} (h:Arr F w b o cap z es) {i:Nat} {e:D} (he:es[i]? =some e):aas F w b (o+i*z) e:=
 ⟨h.cel e (List.mem_of_getElem? he),fun j c hj=>h.els i e he j c hj⟩
section
variable {P:Program} {w:World} {F:Nat→Prop}
theorem fy {t:TypeId} (h:Eu P t=some none):(isAgg t).run P w= .ok false w∧∃ d,P.underlying t=some d:=by
 unfold Eu at h;split at h<;>try(cases h)
 rename_i d n h1 h2 hu hn;refine⟨?_,d,hu⟩;simp only[isAgg,Sem.run_bind,run_underlying hu,Result.andThen_ok];cases d<;>first|rfl|exact(h1 _ rfl).elim|exact(h2 _ _ rfl).elim
theorem bg {t:TypeId} {n:Nat} (h:BO P t=some n):(sizeOf t).run P w= .ok n w:=by
 simp only[BO,abz] at h;obtain⟨i,hi,rfl⟩:=h;simp[sizeOf,typeInfo,hi]
theorem fw {t:TypeId} {n:Nat} (h:Eu P t=some (some n)):(isAgg t).run P w= .ok true w∧(sizeOf t).run P w= .ok n w:=by
 unfold Eu at h;split at h
 · rename_i hu hn
   cases h;exact⟨by simp[isAgg,run_underlying hu],bg hn⟩
 · rename_i hu hn
   cases h;exact⟨by simp[isAgg,run_underlying hu],bg hn⟩
 · split at h<;>cases h
 · cases h
theorem ct (b o n:Nat):(ad3 b o).add n=ad3 b (o+n):=by
 unfold Addr.add;split<;>simp_all
theorem ng {cs:List D} {f:Nat→Option Value} (h:∀ (j:Nat) c,cs[j]? =some c→∃ v,f j=some v∧Rd F w v c):
  ∃ vs:List Value,vs.length=cs.length∧(∀ (j:Nat) v,vs[j]? =some v→f j=some v)∧∀ (j:Nat) v c,vs[j]? =some v→cs[j]? =some c→Rd F w v c:=by
 induction cs generalizing f with
 |nil=>exact⟨[],rfl,by simp,by simp⟩
 | cons c cs ih=>
  obtain⟨v,h1,h2⟩:=h 0 c rfl;obtain⟨vs,g1,g2,g3⟩:=ih (f:=fun j=>f (j+1)) (fun j c' hj=>h (j+1) c' (by simpa using hj))
  refine⟨v::vs,by simp[g1],fun j u hu=> ?_,fun j u d hu hd=> ?_⟩
  · cases j with
    |zero=>simp at hu;subst hu;exact h1
    |succ j=>simp at hu;exact g2 j u hu
  · cases j with
    |zero=>simp at hu hd;subst hu;subst hd;exact h2
    |succ j=>simp at hu hd;exact g3 j u d hu hd
theorem dt {t:TypeId} {z:Option Nat} (hz:Eu P t=some z) {b o off:Nat} {e r:D} (h:aas F w b o e) (hl:ldD z e off=some r):
  ∃ v,(loadVar t (ad3 b (o+off))).run P w= .ok v w∧Rd F w v r:=by
 cases z with
 | none=>
  simp only[ldD] at hl;obtain⟨v,h1,h2⟩:=h.2 off r hl;refine⟨v,?_,h2⟩;simp only[loadVar,Sem.run_bind,(fy hz).1,Result.andThen_ok,acb,if_false,run_load,h1]
 | some n=>
  simp only[ldD] at hl;split at hl
  · rename_i hn
    cases hl;obtain⟨vs,g1,g2,g3⟩:=ng (w:=w) (F:=F) (cs:=(e.cells.drop off).take n) (f:=fun j=>w.cell? (ad3 b (o+off+j))) (fun j c hj=>by
     rw[List.getElem?_take] at hj;split at hj
     · rw[List.getElem?_drop] at hj
       obtain⟨v,q1,q2⟩:=h.2 _ c hj;exact⟨v,by rw[← q1,Nat.add_assoc],q2⟩
     · cases hj)
    have hlen:vs.length=n:=by rw[g1];simp;omega
    have hr:=run_loadCells_list (P:=P) w (ad3 b (o+off)) vs (fun j v hj=>by rw[ct];exact g2 j v hj)
    rw[hlen] at hr;refine⟨.agg vs.toArray,?_,.agg vs _ g1 (fun c hc=>h.1 c (adc (ade hc))) g3⟩
    simp only[loadVar,Sem.run_bind,(fw (w:=w) hz).1,(fw (w:=w) hz).2,Result.andThen_ok,if_true,hr];rfl
  · cases hl
theorem asd {t:TypeId} {z:Option Nat} (hz:Eu P t=some z) {vs:List Value} {cs:List D} (hl:vs.length=cs.length) (hc:∀ c∈cs,c.AP=true)
  (h:∀ (i:Nat) v c,vs[i]? =some v→cs[i]? =some c→Rd F w v c) {off:Nat} {r:D} (hr:ldD z (.agg cs) off=some r):
  ∃ v,(part t vs.toArray off).run P w= .ok v w∧Rd F w v r:=by
 cases z with
 | none=>
  simp only[ldD,D.cells] at hr;have hi:off<vs.length:=by rw[hl];exact(ab1.1 hr).1
  refine⟨vs[off],?_,h off _ _ (ab0 hi) hr⟩;simp[part,(fy (w:=w) hz).1,hi]
 | some n=>
  change (if off+n≤cs.length then some (D.agg ((cs.drop off).take n)) else none)=some r at hr
  by_cases hn:off+n≤cs.length
  · rw[if_pos hn] at hr
    cases hr;refine⟨.agg ((vs.drop off).take n).toArray,?_,.agg _ _ (by simp[hl]) (fun c hc'=>hc c (adc (ade hc'))) (fun i v c h1 h2=> ?_)⟩
    · simp[part,(fw (w:=w) hz).1,(fw (w:=w) hz).2]
    · rw[List.getElem?_take] at h1 h2
      split at h1
      · rename_i hi
        rw[if_pos hi] at h2;rw[List.getElem?_drop] at h1 h2;exact h _ v c h1 h2
      · cases h1
  · rw[if_neg hn] at hr;cases hr
end
section
variable {P:Program} {cfg:Cfg} {x:Cx} {N dep:Nat} {s:Get} {a:Act} {w:World}
theorem cx {o:Oper} {c:Call} (ho:o.op= .call c) {b:Builtin} (hb:c.callee= .builtin b) {v w'} (h:(builtin b c.argTypes o.type (c.args.map fun| .const _=>true|_=>false) (c.args.map a.eval)).run P w= .ok (.value v) w'):
  (execOp a.eval o).run P w= .ok (.value v) w':=by
 rw[← h];simp only[execOp,ho,resolve,hb];rfl
theorem bc2 (R:Rel cfg x N s a w) {o:Oper} {c:Call} (ho:o.op= .call c) (hb:c.callee= .builtin .len) {X:Operand} (hargs:c.args.toList=[X]) {t:TypeId} (htys:c.argTypes.toList=[t])
   {k:Nat} (hd:o.dst=some k) (hk:k<N) {p:AB} (hX:Ah X=some p) (ht:P.underlying t=some .string∨∃ e,P.underlying t=some (.slice e)) {y:V} (hy:val cfg s p=some y)
   {n:Nat} (hn:(match y with| .d (.str b)=>some b.length| .d .AL=>some 0| .d (.sl es)=>some es.length| .own _ _ es=>some es.length| .bor _ _ n=>some n| .vec ys=>some ys.length|_=>none)=some n)
   (hs:(∃ b,y= .d (.str b))↔P.underlying t=some .string):Az P cfg x N dep (AK s (AG o.dst (.d (.int .i64 n)))) a w o:=by
 obtain⟨l,hr,_⟩:=bb R hX hy;have hA:c.args= #[X]:=by apply Array.ext';simp[hargs]
 have hT:c.argTypes= #[t]:=by apply Array.ext';simp[htys]
 refine a6 R hd hk (v:= .int .i64 n) ?_ (.int _ _);have hsl:∀ (v:Value),(∃ ad cap,v= .slice ad n cap)→a.eval X=v→(∃ e,P.underlying t=some (.slice e))→
     (execOp a.eval o).run P w= .ok (.value (.int .i64 n)) w:=by
   intro v hv e ⟨el,he⟩;have hl:(Builtin.len_ #[t] o.type #[v]).run P w= .ok (.int .i64 n) w:=by
     obtain⟨ad,cap,rfl⟩:=hv;simp only[Builtin.len_,List.getElem?_toArray,List.getElem?_cons_zero,Sem.run_bind,run_underlying he,Result.andThen_ok]<;>rfl
   refine cx ho hb ?_;rw[hA,hT];simp only[List.map_toArray,List.map_cons,List.map_nil,e,builtin,Sem.run_bind,hl,Result.andThen_ok,Sem.run_pure]
 have hns:(¬ ∃ b,y= .d (.str b))→∃ e,P.underlying t=some (.slice e):=fun h=>by
   rcases ht with h'|h'
   · exact absurd (hs.2 h') h
   · exact h'
 split at hn
 · rename_i b hb'
   cases hn;have e:=hr.An.DB;have Bz:=hs.1 ⟨_,rfl⟩;have hl:(Builtin.len_ #[t] o.type #[.string ⟨b.toArray⟩]).run P w= .ok (.int .i64 b.length) w:=by
     simp only[Builtin.len_,List.getElem?_toArray,List.getElem?_cons_zero,Sem.run_bind,run_underlying Bz,Result.andThen_ok];rfl
   refine cx ho hb ?_;rw[hA,hT];simp only[List.map_toArray,List.map_cons,List.map_nil,e,builtin,Sem.run_bind,hl,Result.andThen_ok,Sem.run_pure]
 · cases hn
   obtain⟨ad,e⟩:=hr.An.Dm;exact hsl _ ⟨ad,0,rfl⟩ e (hns abw)
 · rename_i es
   cases hn;obtain⟨ad,cap,e,_⟩:=hr.An.EE;exact hsl _ ⟨ad,cap,rfl⟩ e (hns abw)
 · rename_i nw z es
   cases hn;obtain⟨l0,b,o',cap,_,e,_⟩:=hr.EW;exact hsl _ ⟨_,cap,rfl⟩ e (hns abw)
 · rename_i l' off n'
   cases hn;generalize hv:a.eval X=v at hr;cases hr with
   |bor _ _ _ _ b o' cap' h4 h=>exact hsl _ ⟨_,cap',rfl⟩ hv (hns abw)
 · rename_i ys
   cases hn;generalize hv:a.eval X=v at hr;cases hr with
   |vec _ b o' cap' _ vs h1 h2 h3=>exact hsl _ ⟨_,cap',rfl⟩ hv (hns abw)
 · cases hn
theorem XB (R:Rel cfg x N s a w) {o:Oper} {X:Operand} (ho:o.op= .nilCheck X) {k:Nat} (hd:o.dst=some k) (hk:k<N) {p:AB} (hX:Ah X=some p) {y:V} (hy:val cfg s p=some y)
   {u:List (Loc×V)} (hu:EM (some k) y=some u):Az P cfg x N dep (AK s u) a w o:=by
 obtain⟨l,hr,_⟩:=bb R hX hy;have key:y.A5=false→u=AG o.dst y→(execOp a.eval o).run P w= .ok (.value (a.eval X)) w→Az P cfg x N dep (AK s u) a w o:=fun h1 h2 h3=>by
   subst h2;exact ap R hd hk h3 h1 hr
 have AW:∀ v,a.eval X=v→(match v with| .pointer none| .nilIface| .nilFunc=>False| .func (.method _) _ _=>False|_=>True)→(execOp a.eval o).run P w= .ok (.value (a.eval X)) w:=by
   intro v e hv;simp only[execOp,ho,e];split at hv<;>first|exact hv.elim|skip
   rename_i h1 h2 h3 h4;cases v<;>first|rfl| (rename_i q;cases q<;>first|rfl|exact absurd rfl h1)|exact absurd rfl h2|exact absurd rfl h3|skip
   rename_i fn f1 f2;cases fn<;>first|rfl|exact absurd rfl (h4 _ _ _)
 have hp:∀ ad,a.eval X= .pointer (some ad)→(execOp a.eval o).run P w= .ok (.value (a.eval X)) w:=fun ad e=>AW _ e trivial
 unfold EM at hu;generalize hv:a.eval X=v at hr;split at hu<;>cases hu
 · have:=hr.An;cases this;exact key rfl (by rw[hd]) (hp _ hv)
 · have:=hr.An;cases this;exact key rfl (by rw[hd]) (AW _ hv trivial)
 · have:=hr.An;cases this;exact key rfl (by rw[hd]) (AW _ hv trivial)
 · cases hr;exact key rfl (by rw[hd]) (hp _ hv)
 · cases hr;exact key rfl (by rw[hd]) (hp _ hv)
 · cases hr;exact key rfl (by rw[hd]) (hp _ hv)
 · cases hr;exact key rfl (by rw[hd]) (AW _ hv trivial)
 · cases hr;exact key rfl (by rw[hd]) (AW _ hv trivial)
 · cases hr;exact key rfl (by rw[hd]) (hp _ hv)
end
end Go.Ev
namespace Go.Ev
open Go
def aaq (P:Program) (cfg:Cfg):Prop:=
 ∀ t,cfg.Gk t=true→∃ k i,P.underlying t=some (.int k)∧P.info? t=some i∧i.comparable=true
section
variable {P:Program} {cfg:Cfg} {x:Cx} {N dep:Nat} {s:Get} {a:Act} {w:World}
def Fq:Value→Bool
 | .bool _| .pointer _| .slice _ _ _| .func _ _ _| .nilFunc| .iface _ _| .nilIface=>true
 |_=>false
theorem bdd (op:BinOp) (neg:Bool) (AX:op=if neg then .neq else .eql) (t:TypeId) {u v:Value} (hu:Fq u=true) (hv:Fq v=true) {r:Bool}
  (h:(Op.equal t u v).run P w= .ok r w):(binOp op t u v).run P w= .ok (.bool (if neg then !r else r)) w:=by
 have h':(Op.equalIn Op.maxDepth t u v).run P w= .ok r w:=h;cases neg<;>subst AX<;>cases u<;>simp[Fq] at hu<;>cases v<;>simp[Fq] at hv<;>simp[binOp,Op.equal,h']
theorem jx (op:BinOp) (t:TypeId) (X Y:Operand) {u v:Value} (h:(∀ n,u≠ .agg n)) (h':u= .nilIface→v≠ .nilIface):(eqGuard op t X Y u v).run P w= .ok () w:=by
 unfold eqGuard;cases op<;>try rfl
 all_goals
  cases u<;>first|rfl| (exact absurd rfl (h _))|skip
  cases v<;>first|rfl| (exact absurd rfl (h' rfl))
theorem cg {t e:TypeId} (ht:P.underlying t=some (.pointer e)) (u v:Option Addr) (h:u=none∨v=none):
  (Op.equal t (.pointer u) (.pointer v)).run P w= .ok (u.isNone&&v.isNone) w:=by
 show(Op.equalIn (9999+1) t _ _).run P w=_;unfold Op.equalIn;cases u<;>cases v<;>simp at h<;>simp[run_underlying ht]
theorem rr {t e:TypeId} (ht:P.underlying t=some (.slice e)) (u v:Option Addr) (l c l' c':Nat) (h:u=none∨v=none):
  (Op.equal t (.slice u l c) (.slice v l' c')).run P w= .ok (u.isNone&&v.isNone) w:=by
 show(Op.equalIn (9999+1) t _ _).run P w=_;unfold Op.equalIn;cases u<;>cases v<;>simp at h<;>simp[run_underlying ht]
theorem du {t:TypeId} {ps rs:Array TypeId} {b:Bool} (ht:P.underlying t=some (.func ps rs b)) (u v:Value)
  (h:(u= .nilFunc∧v= .nilFunc)∨(u= .nilFunc∧∃ f a b,v= .func f a b)∨((∃ f a b,u= .func f a b)∧v= .nilFunc)):
  (Op.equal t u v).run P w= .ok (u matches .nilFunc&&v matches .nilFunc) w:=by
 show(Op.equalIn (9999+1) t _ _).run P w=_;unfold Op.equalIn;rcases h with⟨rfl,rfl⟩|⟨rfl,f,p,q,rfl⟩|⟨⟨f,p,q,rfl⟩,rfl⟩<;>simp[run_underlying ht]
theorem uh {t:TypeId} (ht:P.underlying t=some .bool) (u v:Bool):(Op.equal t (.bool u) (.bool v)).run P w= .ok (u==v) w:=by
 show(Op.equalIn (9999+1) t _ _).run P w=_;unfold Op.equalIn;simp[run_underlying ht]
theorem b8 {t:TypeId} {ms:Array (String×TypeId)} (ht:P.underlying t=some (.interface ms)) (u v:Value)
  (h:(u= .nilIface∧∃ f a,v= .iface f a)∨((∃ f a,u= .iface f a)∧v= .nilIface)):(Op.equal t u v).run P w= .ok false w:=by
 show(Op.equalIn (9999+1) t _ _).run P w=_;unfold Op.equalIn;rcases h with⟨rfl,f,p,rfl⟩|⟨⟨f,p,rfl⟩,rfl⟩<;>simp[run_underlying ht]
theorem mu {t:TypeId} {ms:Array (String×TypeId)} (ht:P.underlying t=some (.interface ms)) (f g:TypeId) (p q:Value) (h:f≠g):
  (Op.equal t (.iface f p) (.iface g q)).run P w= .ok false w:=by
 show(Op.equalIn (9999+1) t _ _).run P w=_;unfold Op.equalIn;simp[run_underlying ht,h]
theorem l9 {t:TypeId} {ms:Array (String×TypeId)} (ht:P.underlying t=some (.interface ms)) (f:TypeId) {k k':IntKind} {i:TypeInfo} (n m:Int)
  (hf:P.underlying f=some (.int k')) (hi:P.info? f=some i) (hc:i.comparable=true):
  (Op.equal t (.iface f (.int k n)) (.iface f (.int k m))).run P w= .ok (n==m) w:=by
 show(Op.equalIn (9998+1+1) t _ _).run P w=_;unfold Op.equalIn;simp only[Sem.run_bind,run_underlying ht,Result.andThen_ok,ne_eq,ac2,if_false,typeInfo,run_program,hi,Sem.run_pure,hc,adj,acb];unfold Op.equalIn;simp[run_underlying hf]
theorem XG (hI:aaq P cfg) (R:Rel cfg x N s a w) {o:Oper} {op:BinOp} {neg:Bool} (AX:op=if neg then .neq else .eql) {t t':TypeId} {X Y:Operand} (ho:o.op= .binOp op t X Y t')
   {k:Nat} (hd:o.dst=some k) (hk:k<N) {p q:AB} (hX:Ah X=some p) (hY:Ah Y=some q) {d:TypeDesc} (ht:P.underlying t=some d) {cls:QO} (hcls:kh d=some cls)
   {c e:V} (hc:val cfg s p=some c) (he:val cfg s q=some e) {r:Bool} (hr:V.eqn cfg cls c e=some r):
   Az P cfg x N dep (AK s (AG o.dst (.d (.bool (if neg then !r else r))))) a w o:=by
 obtain⟨l1,h1,_⟩:=bb R hX hc;obtain⟨l2,h2,_⟩:=bb R hY he;generalize hu:a.eval X=u at h1;generalize hv:a.eval Y=v at h2;have key:Fq u=true→Fq v=true→(u= .nilIface→v≠ .nilIface)→(Op.equal t u v).run P w= .ok r w→Az P cfg x N dep (AK s (AG o.dst (.d (.bool (if neg then !r else r))))) a w o:=by
   intro e1 e2 e3 e4;refine a6 R hd hk (v:= .bool _) ?_ (.bool _);have hg:(eqGuard op t X Y u v).run P w= .ok () w:=jx op t X Y (fun n h=>by subst h;simp[Fq] at e1) e3
   simp only[execOp,ho,hu,hv,Sem.run_bind,hg,Result.andThen_ok,bdd op neg AX t e1 e2 e4,Sem.run_pure]
 have hbool:cls= .bool→d= .bool:=by rintro rfl;unfold kh at hcls;split at hcls<;>first|rfl|cases hcls
 have hptr:cls= .ptr→∃ e,d= .pointer e:=by rintro rfl;unfold kh at hcls;split at hcls<;>first|exact⟨_,rfl⟩|cases hcls
 have hfn:cls= .func→∃ p q b,d= .func p q b:=by rintro rfl;unfold kh at hcls;split at hcls<;>first|exact⟨_,_,_,rfl⟩|cases hcls
 have hif:cls= .iface→∃ ms,d= .interface ms:=by rintro rfl;unfold kh at hcls;split at hcls<;>first|exact⟨_,rfl⟩|cases hcls
 unfold V.eqn at hr;split at hr
 · have g1:=h1.An
   have g2:=h2.An;unfold D.eqn at hr;split at hr
   · cases hr;cases g1;cases g2;cases hbool rfl;exact key rfl rfl abw (uh ht _ _)
   · cases hr;cases g1;cases g2;obtain⟨el,rfl⟩:=hptr rfl;exact key rfl rfl abw (cg ht _ _ (.inl rfl))
   · cases hr;cases g1;cases g2;obtain⟨el,rfl⟩:=hptr rfl;exact key rfl rfl abw (cg ht _ _ (.inl rfl))
   · cases hr;cases g1;cases g2;obtain⟨el,rfl⟩:=hptr rfl;exact key rfl rfl abw (cg ht _ _ (.inr rfl))
   · exfalso;unfold kh at hcls;split at hcls<;>cases hcls
   · cases hr;cases g1;cases g2;obtain⟨_,_,_,rfl⟩:=hfn rfl;exact key rfl rfl abw (du ht _ _ (.inl ⟨rfl,rfl⟩))
   · cases hr;cases g1;cases g2;obtain⟨_,_,_,rfl⟩:=hfn rfl;exact key rfl rfl abw (du ht _ _ (.inr (.inl ⟨rfl,_,_,_,rfl⟩)))
   · cases hr;cases g1;cases g2;obtain⟨_,_,_,rfl⟩:=hfn rfl;exact key rfl rfl abw (du ht _ _ (.inr (.inr ⟨⟨_,_,_,rfl⟩,rfl⟩)))
   · cases hr;cases g1;cases g2;obtain⟨_,rfl⟩:=hif rfl;exact key rfl rfl abw (b8 ht _ _ (.inl ⟨rfl,_,_,rfl⟩))
   · cases hr;cases g1;cases g2;obtain⟨_,rfl⟩:=hif rfl;exact key rfl rfl abw (b8 ht _ _ (.inr ⟨⟨_,_,rfl⟩,rfl⟩))
   · obtain⟨_,rfl⟩:=hif rfl
     split at hr
     · rename_i Ai
       cases hr;cases g1;cases g2;exact key rfl rfl abw (mu ht _ _ _ _ Ai)
     · rename_i Ai
       have Ai:=Decidable.not_not.1 Ai;split at hr
       · split at hr
         · rename_i hk
           obtain⟨hk1,rfl⟩:=hk;cases hr;subst Ai;obtain⟨k',i,q1,q2,q3⟩:=hI _ hk1;cases g1 with
           | ifc _ _ _ g1=>cases g2 with
            | ifc _ _ _ g2=>
             cases g1.Ar;cases g2.Ar;exact key rfl rfl abw (l9 ht _ _ _ q1 q2 q3)
         · cases hr
       · cases hr
   · exfalso;unfold kh at hcls;split at hcls<;>cases hcls
   · exfalso;unfold kh at hcls;split at hcls<;>cases hcls
   · cases hr
 · cases hr;cases h2.An;obtain⟨el,rfl⟩:=hptr rfl;cases h1;exact key rfl rfl abw (cg ht _ _ (.inr rfl))
 · cases hr;cases h2.An;obtain⟨el,rfl⟩:=hptr rfl;cases h1;exact key rfl rfl abw (cg ht _ _ (.inr rfl))
 · cases hr;cases h2.An;obtain⟨el,rfl⟩:=hptr rfl;cases h1;exact key rfl rfl abw (cg ht _ _ (.inr rfl))
 · cases hr;cases h2.An;obtain⟨_,_,_,rfl⟩:=hfn rfl;cases h1;exact key rfl rfl abw (du ht _ _ (.inr (.inr ⟨⟨_,_,_,rfl⟩,rfl⟩)))
 · cases hr;cases h2.An;obtain⟨_,rfl⟩:=hif rfl;cases h1;exact key rfl rfl abw (b8 ht _ _ (.inr ⟨⟨_,_,rfl⟩,rfl⟩))
 · exfalso;unfold kh at hcls;split at hcls<;>cases hcls
 · cases hr
theorem Vy (s t:List UInt8):((⟨s.toArray⟩:ByteArray).toList==(⟨t.toArray⟩:ByteArray).toList)=(s==t):=by
 rw[ByteArray.toList_eq,ByteArray.toList_eq]
theorem pq {F G:Nat→Prop} (dd:Nat) (vs us:List Value) (cs es:List D)
  (hv:∀ (i:Nat) v c,vs[i]? =some v→cs[i]? =some c→Rd F w v c) (hu:∀ (i:Nat) v c,us[i]? =some v→es[i]? =some c→Rd G w v c) (hl:vs.length=cs.length) (A6:us.length=es.length):
  ∀ (fs:List Field) (i:Nat) (ks:List Nat) (r:Bool),a9w P i fs=some ks→dm ks (cs.drop i) (es.drop i)=some r→
    (Op.eqFields (dd+1) vs.toArray us.toArray fs).run P w= .ok r w
 | [],i,ks,r,hf,h3=>by
  cases hf;generalize cs.drop i=A at h3;generalize es.drop i=B at h3;cases A<;>cases B<;>simp only[dm] at h3<;>cases h3;rfl
 | f::fs,i,ks,r,hf,h3=>by
  unfold a9w at hf;split at hf
  · rename_i k ks' hk hr
    split at hf
    · rename_i hq
      obtain⟨hn,ho,hz⟩:=hq;cases hf;have hi:i<cs.length:=by
        by_cases h:i<cs.length
        · exact h
        · rw[List.drop_of_length_le abu] at h3;simp[dm] at h3
      have hi':i<es.length:=by
        by_cases h:i<es.length
        · exact h
        · rw[List.drop_of_length_le (l:=es) abu,adm hi] at h3;simp[dm] at h3
      rw[adm hi,adm hi'] at h3;have pv:(part f.type vs.toArray f.offset).run P w= .ok (vs[i]'(by omega)) w:=by
        simp only[part,Sem.run_bind,(fy hz).1,Result.andThen_ok,acb,if_false];simp[ho,ab0 (show i<vs.length by omega)]
      have pu:(part f.type us.toArray f.offset).run P w= .ok (us[i]'(by omega)) w:=by
        simp only[part,Sem.run_bind,(fy hz).1,Result.andThen_ok,acb,if_false];simp[ho,ab0 (show i<us.length by omega)]
      have rv:=hv i _ _ (ab0 abu) (ab0 hi);have ru:=hu i _ _ (ab0 abu) (ab0 hi');simp only[dm] at h3;split at h3
      · rename_i t t' g1 g2
        cases h3;have ih:=pq dd vs us cs es hv hu hl A6 fs (i+1) ks' t' hr g2;have e1:(Op.equalIn (dd+1) f.type (vs[i]'(by omega)) (us[i]'(by omega))).run P w= .ok t w:=by
          generalize vs[i]'(by omega)=v at*
          generalize us[i]'(by omega)=u at*
          generalize cs[i]=c at *;generalize es[i]=e at *;unfold qe at g1;split at g1
          · rename_i a b c d
            split at g1
            · rename_i hkk
              cases g1;subst hkk;cases rv.Ar;cases ru.Ar;unfold Qd at hk;split at hk<;>cases hk;rename_i k2 hk2;exact run_equalIn_int w dd _ _ k2 _ _ hk2
            · cases g1
          · cases g1
            cases rv.Cc;cases ru.Cc;unfold Qd at hk;split at hk<;>cases hk;rename_i hk2;exact run_equalIn_bool w dd _ _ _ hk2
          · cases g1
            cases rv;cases ru;unfold Qd at hk;split at hk<;>cases hk;rename_i hk2;rw[run_equalIn_string w dd _ _ _ hk2,Vy]
          · cases g1
        simp only[Op.eqFields,ne_eq,hn,ac8,if_true,Sem.run_bind,pv,pu,Result.andThen_ok,e1];cases t
        · simp only[adb,if_true,Sem.run_pure];rfl
        · simp only[adj,acb,if_false];rw[ih];rfl
      · cases h3
    · cases hf
  · cases hf
theorem YG {ks:List Nat} {c e:V} {r:Bool} (hr:V.eqn cfg (.agg ks) c e=some r):∃ xs ys,c= .d (.agg xs)∧e= .d (.agg ys)∧dm ks xs ys=some r:=by
 cases c<;>cases e<;>simp only[V.eqn,reduceCtorEq] at hr;rename_i c e;cases c<;>cases e<;>simp only[D.eqn,reduceCtorEq] at hr;exact⟨_,_,rfl,rfl,hr⟩
theorem XH (R:Rel cfg x N s a w) {o:Oper} {op:BinOp} {neg:Bool} (AX:op=if neg then .neq else .eql) {t t':TypeId} {X Y:Operand} (ho:o.op= .binOp op t X Y t')
   {k:Nat} (hd:o.dst=some k) (hk:k<N) {p q:AB} (hX:Ah X=some p) (hY:Ah Y=some q) {fs:Array Field} (ht:P.underlying t=some (.struct fs)) {ks:List Nat} (hcls:a9x P t fs=some ks)
   {c e:V} (hc:val cfg s p=some c) (he:val cfg s q=some e) {r:Bool} (hr:V.eqn cfg (.agg ks) c e=some r):
   Az P cfg x N dep (AK s (AG o.dst (.d (.bool (if neg then !r else r))))) a w o:=by
 obtain⟨xs,ys,rfl,rfl,hr⟩:=YG hr;have h1:=B9 R hX hc;have h2:=B9 R hY he;generalize hu:a.eval X=u at h1;generalize hv:a.eval Y=v at h2;cases h1 with
 |agg vs cs hl hcc hvs=>
 cases h2 with
 |agg us es A6 hcc' hus=>
 unfold a9x at hcls;split at hcls
 · cases hcls
 · rename_i hno
   rw[not_or] at hno;have Bz:P.stoodInHeld t=false:=by simpa using hno.1
   have hgd:P.eqGuardType P.depth t=false:=by simpa using hno.2
   have hfs:P.fieldsOf t=fs:=by unfold Program.fieldsOf;rw[ht]
   have AW:(Op.equalIn 10000 t (.agg vs.toArray) (.agg us.toArray)).run P w= .ok r w:=by
     rw[run_equalIn_struct w 9999 t _ _ (by rw[hfs];exact ht) Bz,hfs]
     exact pq 9998 vs us xs ys hvs hus hl A6 fs.toList 0 ks r hcls hr
   refine a6 R hd hk (v:= .bool _) ?_ (.bool _);cases neg
   · simp only[acb,if_false] at AX
     subst AX;simp only[execOp,ho,hu,hv,Sem.run_bind,run_eqGuard_agg w _ t X Y _ _ hgd,Result.andThen_ok,run_eql_struct,AW,Sem.run_pure,acb,if_false]
   · simp only[if_true] at AX
     subst AX;simp only[execOp,ho,hu,hv,Sem.run_bind,run_eqGuard_agg w _ t X Y _ _ hgd,Result.andThen_ok,run_neq_struct,AW,Sem.run_pure,if_true]
theorem bnm {Y:Operand} (h:Ah Y=some (.c .AL)):Y= .const (.slice none 0 0):=by
 cases Y with
 |tmp t=>cases h
 |global g=>cases h
 |func f=>cases h
 | const v=>
  simp only[Ah,abz,AB.c.injEq] at h;obtain⟨d,hd,rfl⟩:=h;unfold Gv at hd;split at hd
  · simp only[abz] at hd
    obtain⟨_,_,hd⟩:=hd;cases hd
  · unfold Fl at hd
    split at hd<;>first|rfl|cases hd
theorem alb {Y:Operand} (h:Ah Y=some (.c .Be)):Y= .const .nilIface:=by
 cases Y with
 |tmp t=>cases h
 |global g=>cases h
 |func f=>cases h
 | const v=>
  simp only[Ah,abz,AB.c.injEq] at h;obtain⟨d,hd,rfl⟩:=h;unfold Gv at hd;split at hd
  · simp only[abz] at hd
    obtain⟨_,_,hd⟩:=hd;cases hd
  · unfold Fl at hd
    split at hd<;>first|rfl|cases hd
theorem bc4 (R:Rel cfg x N s a w) {o:Oper} {op:BinOp} {neg:Bool} (AX:op=if neg then .neq else .eql) {t t':TypeId} {X Y:Operand} (ho:o.op= .binOp op t X Y t')
  {k:Nat} (hd:o.dst=some k) (hk:k<N) {p:AB} (hX:Ah X=some p) (hY:Ah Y=some (.c .Be)) {ms:Array (String×TypeId)} (ht:P.underlying t=some (.interface ms)) {c:V} (hc:val cfg s p=some c) {r:Bool} (hr:V.eqn cfg .FH c (.d .Be)=some r):
  Az P cfg x N dep (AK s (AG o.dst (.d (.bool (if neg then !r else r))))) a w o:=by
 obtain⟨l1,h1,_⟩:=bb R hX hc;have hv:a.eval Y= .nilIface:=by rw[alb hY];rfl
 have hYc:=alb hY;generalize hu:a.eval X=u at h1;have key:Fq u=true→(∀ n,u≠ .agg n)→(Op.equal t u .nilIface).run P w= .ok r w→Az P cfg x N dep (AK s (AG o.dst (.d (.bool (if neg then !r else r))))) a w o:=by
  intro e1 e2 e4;refine a6 R hd hk (v:= .bool _) ?_ (.bool _);have hg:(eqGuard op t X Y u .nilIface).run P w= .ok () w:=by
   by_cases hu':u= .nilIface
   · subst hu'
     rw[hYc];unfold eqGuard;cases op<;>first|rfl| (simp;done)
   · exact jx op t X Y e2 (fun h=>absurd h hu')
  simp only[execOp,ho,hu,hv,Sem.run_bind,hg,Result.andThen_ok,bdd op neg AX t e1 rfl e4,Sem.run_pure]
 cases c with
 | d y=>
  have g1:=h1.An;cases y with
  | Be=>
   have:r=true:=by simpa[V.eqn,D.eqn] using hr.symm
   subst this;cases g1;exact key rfl abw (by
     show(Op.equalIn (9999+1) t _ _).run P w=_;unfold Op.equalIn;simp[run_underlying ht])
  | ifc f y=>
   have:r=false:=by simpa[V.eqn,D.eqn] using hr.symm
   subst this;cases g1;exact key rfl abw (b8 ht _ _ (.inr ⟨⟨_,_,rfl⟩,rfl⟩))
  |_=>simp[V.eqn,D.eqn] at hr
 | ifc f y=>
  have:r=false:=by simpa[V.eqn] using hr.symm
  subst this;cases h1;exact key rfl abw (b8 ht _ _ (.inr ⟨⟨_,_,rfl⟩,rfl⟩))
 |_=>simp[V.eqn] at hr
theorem bc3 (R:Rel cfg x N s a w) {o:Oper} {op:BinOp} {neg:Bool} (AX:op=if neg then .neq else .eql) {t t' e:TypeId} {X Y:Operand} (ho:o.op= .binOp op t X Y t')
   {k:Nat} (hd:o.dst=some k) (hk:k<N) {p:AB} (hX:Ah X=some p) (hY:Ah Y=some (.c .AL)) (ht:P.underlying t=some (.slice e)) {c:V} (hc:val cfg s p=some c) {r:D} (hr:mj neg c=some r):
   Az P cfg x N dep (AK s (AG o.dst (.d r))) a w o:=by
 obtain⟨l1,h1,_⟩:=bb R hX hc;have hv:a.eval Y= .slice none 0 0:=by rw[bnm hY];rfl
 generalize hu:a.eval X=u at h1;have key:∀ ad len cap,u= .slice ad len cap→Rd (AE x) w (.bool (if neg then !ad.isNone else ad.isNone)) r→Az P cfg x N dep (AK s (AG o.dst (.d r))) a w o:=by
   intro ad len cap e1 e2;subst e1;refine a6 R hd hk ?_ e2;have hg:(eqGuard op t X Y (.slice ad len cap) (.slice none 0 0)).run P w= .ok () w:=jx op t X Y abw abw;have he:=rr (P:=P) (w:=w) ht ad none len cap 0 0 (.inr rfl);simp only[Option.isNone_none,Bool.and_true] at he;simp only[execOp,ho,hu,hv,Sem.run_bind,hg,Result.andThen_ok,bdd op neg AX t rfl rfl he,Sem.run_pure]
 unfold mj at hr;split at hr
 · cases hr;obtain⟨ad,e1⟩:=h1.An.Dm;exact key _ _ _ e1 (.Cy _)
 · cases hr;obtain⟨ad,cap,e1,_⟩:=h1.An.EE;exact key _ _ _ e1 (.Cy _)
 · cases hr
   have h2:=h1.An;cases h2 with
   |sl b o' len cap z es vs hlen Ad=>exact key _ _ _ rfl (by cases neg<;>exact .bool _)
 · cases hr;obtain⟨_,b,o',cap,_,e1,_⟩:=h1.EW;exact key _ _ _ e1 (by cases neg<;>exact .bool _)
 · cases hr;cases h1;exact key _ _ _ rfl (by cases neg<;>exact .bool _)
 · cases hr
end
end Go.Ev
namespace Go.Ev
open Go
section
variable {P:Program} {cfg:Cfg} {x:Cx} {N dep:Nat} {s:Get} {a:Act} {w:World}
theorem bcr {F:Nat→Prop} {v:Value} {d:D} {n:Int} (h:Rd F w v d) (hd:d.toInt? =some n):∃ k,v= .int k n∧d= .int k n:=by
 cases d<;>simp only[D.toInt?] at hd<;>cases hd;exact⟨_,h.Ar,rfl⟩
theorem gk (R:Rel cfg x N s a w) {X:Operand} {ix:AB} (hX:Ah X=some ix) {n:Int} (hy:(dat cfg s ix).bind D.toInt? =some n):∃ k,a.eval X= .int k n:=by
 simp only[ab7] at hy;obtain⟨d,h1,h2⟩:=hy;obtain⟨k,h3,_⟩:=bcr (tj R hX h1) h2;exact⟨k,h3⟩
theorem bat (R:Rel cfg x N s a w) {o:Oper} {t:TypeId} {X:Operand} {f:Nat} (ho:o.op= .fieldAddr t X f) {k:Nat} (hd:o.dst=some k) (hk:k<N) {p:AB} (hX:Ah X=some p)
   {fs:Array Field} (ht:P.underlying t=some (.struct fs)) {fd:Field} (hf:fs[f]? =some fd) {n:Nat} (hn:BO P fd.type=some n) (hn0:n≠0) {y:V} (hy:val cfg s p=some y)
   {k':Nat} {u:List (Loc×V)} (hu:(match(some y:Option V) with
    |some (.ref d k o)=>some (AG (some k') (.ref d k (o+fd.offset)))
    |some (.Am l i o)=>some (AG (some k') (.Am l i (o+fd.offset)))
    |some (.Af e o)=>some (AG (some k') (.Af e (o+fd.offset)))
    |some (.d (.ptr e))=>some (AG (some k') (.Af e fd.offset))
    |_=>none)=some u) (hk':k'=k):Az P cfg x N dep (AK s u) a w o:=by
 subst hk';obtain⟨l,hr,_⟩:=bb R hX hy;generalize hv:a.eval X=v at hr;have AW:∀ b o',v= .pointer (some (ad3 b o'))→(execOp a.eval o).run P w= .ok (.value (.pointer (some (ad3 b (o'+fd.offset))))) w:=fun b o' e=>by
   subst e;simp[execOp,ho,hv,Instr.fieldAt,run_underlying ht,hf,Instr.sureAddr,fieldPlace,bg hn,hn0,ct]
 split at hu<;>cases hu
 · rename_i e;cases e;rw[← hd];cases hr with
   |ref _ d j off h=>exact ap R hd hk (AW _ _ rfl) rfl (l:=none) (.ref _ _ _ _ h)
 · rename_i e;cases e;rw[← hd];cases hr with
   |Am _ l' i off b o' h=>exact ap R hd hk (AW _ _ rfl) rfl (l:=none) (.Am _ _ _ _ _ _ (fun z es hs=>by
     obtain⟨q,L,C,h1,h2⟩:=h z es hs;exact⟨q,L,C,h1,by omega⟩))
 · rename_i e;cases e;rw[← hd];cases hr with
   |Af _ b o' off e h=>exact ap R hd hk (by rw[AW _ _ rfl,Nat.add_assoc]) rfl (l:=none) (.Af _ _ _ _ _ h)
 · rename_i e;cases e;rw[← hd]
   have:=hr.An;cases this with
   |ptr b o' e2 vs hc hm h=>exact ap R hd hk (AW _ _ rfl) rfl (l:=none) (.Af _ b o' fd.offset _ ⟨hc,fun j c hj=>⟨vs j,(hm j c hj).1,(hm j c hj).2,h j c hj⟩⟩)
theorem Sx (R:Rel cfg x N s a w) {o:Oper} {t:TypeId} {X I:Operand} (ho:o.op= .indexAddr t X I) {k:Nat} (hd:o.dst=some k) (hk:k<N) {p q:AB} (hX:Ah X=some p) (hI:Ah I=some q)
   {n:Nat} {el:TypeId} (ht:P.underlying t=some (.array n el)) {z:Nat} (hz:BO P el=some z) {y:V} {j:Int}
   {u:List (Loc×V)} (hu:(match y with
    | .ref d k' o=>some (AG (some k) (.ref d k' (o+j.toNat*z)))
    | .Am l i o=>some (AG (some k) (.Am l i (o+j.toNat*z)))
    | .Af e o=>some (AG (some k) (.Af e (o+j.toNat*z)))
    | .d (.ptr e)=>some (AG (some k) (.Af e (j.toNat*z)))
    |_=>none)=some u) (hy:val cfg s p=some y) (hj:(dat cfg s q).bind D.toInt? =some j) (h0:0≤j) (h1:j<n)
   :Az P cfg x N dep (AK s u) a w o:=by
 obtain⟨l,hr,_⟩:=bb R hX hy;obtain⟨ik,hi⟩:=gk R hI hj;generalize hv:a.eval X=v at hr;have AW:∀ b o',v= .pointer (some (ad3 b o'))→(execOp a.eval o).run P w= .ok (.value (.pointer (some (ad3 b (o'+j.toNat*z))))) w:=fun b o' e=>by
   subst e;simp[execOp,ho,hv,hi,Instr.indexAt,asIntOf,run_underlying ht,Instr.sureAddr,bg hz,h0,h1,ct]
 split at hu<;>cases hu
 · rw[← hd];cases hr with
   |ref _ d j off h=>exact ap R hd hk (AW _ _ rfl) rfl (l:=none) (.ref _ _ _ _ h)
 · rw[← hd];cases hr with
   |Am _ l' i off b o' h=>exact ap R hd hk (AW _ _ rfl) rfl (l:=none) (.Am _ _ _ _ _ _ (fun z es hs=>by
    obtain⟨q,L,C,h1,h2⟩:=h z es hs;exact⟨q,L,C,h1,by omega⟩))
 · rw[← hd];cases hr with
   |Af _ b o' off e h=>exact ap R hd hk (by rw[AW _ _ rfl,Nat.add_assoc]) rfl (l:=none) (.Af _ _ _ _ _ h)
 · rw[← hd]
   have:=hr.An;cases this with
   |ptr b o' e2 vs hc hm h=>exact ap R hd hk (AW _ _ rfl) rfl (l:=none) (.Af _ b o' (j.toNat*z) _ ⟨hc,fun j c hj=>⟨vs j,(hm j c hj).1,(hm j c hj).2,h j c hj⟩⟩)
theorem bc5 (R:Rel cfg x N s a w) {o:Oper} {t:TypeId} {X:Operand} {f:Nat} (ho:o.op= .field t X f) {k:Nat} (hd:o.dst=some k) (hk:k<N) {p:AB} (hX:Ah X=some p)
  {fs:Array Field} (ht:P.underlying t=some (.struct fs)) {fd:Field} (hf:fs[f]? =some fd) {z:Option Nat} (hz:Eu P fd.type=some z) {cs:List D} (hy:val cfg s p=some (.d (.agg cs)))
  {r:D} (hr:ldD z (.agg cs) fd.offset=some r):Az P cfg x N dep (AK s (AG o.dst (.d r))) a w o:=by
 have h1:=B9 R hX hy;generalize hv:a.eval X=v at h1;cases h1 with
 | agg vs cs hl hc h=>
  obtain⟨v,g1,g2⟩:=asd (P:=P) hz hl hc h hr;refine a6 R hd hk (v:=v) ?_ g2;simp only[execOp,ho,hv,Instr.field,Sem.run_bind,run_underlying ht,Result.andThen_ok,hf,asAgg,Sem.run_pure,g1]
theorem sim_idxC (R:Rel cfg x N s a w) {o:Oper} {t:TypeId} {X I:Operand} (ho:o.op= .index t X I) {k:Nat} (hd:o.dst=some k) (hk:k<N) {p q:AB} (hX:Ah X=some p) (hI:Ah I=some q)
  {n:Nat} {e:TypeId} (ht:P.underlying t=some (.array n e)) {z:Option Nat} (hz:Eu P e=some z) {cs:List D} (hy:val cfg s p=some (.d (.agg cs)))
  {j:Int} (hj:(dat cfg s q).bind D.toInt? =some j) (h0:0≤j) (h1:j<n) {r:D} (hr:ldD z (.agg cs) (j.toNat*z.getD 1)=some r):Az P cfg x N dep (AK s (AG o.dst (.d r))) a w o:=by
 have g:=B9 R hX hy;obtain⟨kk,hji⟩:=gk R hI hj;generalize hv:a.eval X=v at g;cases g with
 | agg vs cs hl hc h=>
  obtain⟨v,g1,g2⟩:=asd (P:=P) hz hl hc h hr;have hs:(sizeOf e).run P w= .ok (z.getD 1) w:=by
   cases z with
   |some n=>exact(fw hz).2
   | none=>
    unfold Eu at hz;split at hz<;>try(cases hz)
    rename_i q1 q2 q3;split at hz
    · rename_i h1;subst h1;exact bg q3
    · cases hz
  refine a6 R hd hk (v:=v) ?_ g2;simp only[execOp,ho,hv,hji,Instr.index,asIntOf,Sem.run_bind,Sem.run_pure,Result.andThen_ok,run_underlying ht,h0,h1,and_self,if_true,hs,g1]
theorem Sw (R:Rel cfg x N s a w) {o:Oper} {t:TypeId} {X I:Operand} (ho:o.op= .index t X I) {k:Nat} (hd:o.dst=some k) (hk:k<N) {p q:AB} (hX:Ah X=some p) (hI:Ah I=some q)
  (ht:P.underlying t=some .string) {b:List UInt8} (hy:val cfg s p=some (.d (.str b))) {j:Int} (hj:(dat cfg s q).bind D.toInt? =some j) (h0:¬ j<0) {c:UInt8} (hc:b[j.toNat]? =some c):
  Az P cfg x N dep (AK s (AG o.dst (.d (AD c)))) a w o:=by
 have e:=(B9 R hX hy).DB;obtain⟨kk,hji⟩:=gk R hI hj;refine a6 R hd hk (v:= .int .u8 c.toNat) ?_ (.int _ _);have hb:(⟨b.toArray⟩:ByteArray)[j.toNat]? =some c:=by
  have:(⟨b.toArray⟩:ByteArray)[j.toNat]? =b[j.toNat]? :=by
   rw[getElem?_def];by_cases h:j.toNat<b.length
   · rw[dif_pos (show j.toNat<(⟨b.toArray⟩:ByteArray).size from h),ab0 h];rfl
   · rw[dif_neg (show ¬ j.toNat<(⟨b.toArray⟩:ByteArray).size from h),adz abu]
  rw[this];exact hc
 simp only[execOp,ho,e,hji,Instr.index,asIntOf,Sem.run_bind,Sem.run_pure,Result.andThen_ok,run_underlying ht,show(0:Int)≤j by omega,if_true,hb]
theorem di {j:Int} {k:IntKind} {y:Nat} (c:BoundsCode) (h:0≤j∧j≤y):(Instr.sliceBound (.int k j) y c).run P w= .ok j.toNat w:=by
 simp[Instr.sliceBound,asIntOf,h.1,h.2]
theorem rp (R:Rel cfg x N s a w) {lo hi:Option Operand} {ilo ihi:Option AB} (hlo:Ca lo=some ilo) (hhi:Ca hi=some ihi) {len top:Nat} (isS:Bool) {l h:Nat} (hb:bf cfg s len ilo ihi=some (l,h))
   (htop:len≤top):(Instr.sliceBounds isS len top (lo.map a.eval) (hi.map a.eval) none).run P w= .ok (l,h,top) w∧l≤h∧h≤len:=by
 unfold bf at hb;simp only at hb;split at hb
 · cases hb
 · rename_i h' hh'
   have hH:h'≤len∧((hi=none∧h'=len)∨∃ Y k n,hi=some Y∧a.eval Y= .int k n∧0≤n∧n≤len∧h'=n.toNat):=by
     cases hi with
     |none=>cases hhi;simp at hh';subst hh';exact⟨ab5 _,.inl ⟨rfl,rfl⟩⟩
     | some X=>
       simp only[Ca,abz] at hhi;obtain⟨ix,hX,rfl⟩:=hhi;simp only at hh';split at hh'
       · rename_i n hn
         split at hh'
         · rename_i hn'
           cases hh';obtain⟨k,hk⟩:=gk R hX hn;exact⟨by omega,.inr ⟨X,k,n,rfl,hk,hn'.1,hn'.2,rfl⟩⟩
         · cases hh'
       · cases hh'
   obtain⟨q1,q2⟩:=hH;have hL:(lo=none∧l=0∧h=h')∨∃ Y k n,lo=some Y∧a.eval Y= .int k n∧0≤n∧n≤h'∧l=n.toNat∧h=h':=by
     cases lo with
     |none=>cases hlo;cases hb;exact .inl ⟨rfl,rfl,rfl⟩
     | some X=>
       simp only[Ca,abz] at hlo;obtain⟨ix,hX,rfl⟩:=hlo;simp only at hb;split at hb
       · rename_i n hn
         split at hb
         · rename_i hn'
           cases hb;obtain⟨k,hk⟩:=gk R hX hn;exact .inr ⟨X,k,n,rfl,hk,hn'.1,hn'.2,rfl,rfl⟩
         · cases hb
       · cases hb
   rcases q2 with⟨rfl,rfl⟩|⟨Y,k,n,rfl,g1,g2,g3,rfl⟩
   · rcases hL with⟨rfl,rfl,rfl⟩|⟨Z,k',m,rfl,f1,f2,f3,rfl,rfl⟩
     · exact⟨by simp[Instr.sliceBounds],by omega,q1⟩
     · refine⟨?_,by omega,q1⟩
       simp only[Instr.sliceBounds,Option.map_none,Option.map_some,Sem.run_bind,Sem.run_pure,Result.andThen_ok,f1];rw[di _ ⟨f2,f3⟩];rfl
   · rcases hL with⟨rfl,rfl,rfl⟩|⟨Z,k',m,rfl,f1,f2,f3,rfl,rfl⟩
     · refine⟨?_,by omega,q1⟩
       simp only[Instr.sliceBounds,Option.map_none,Option.map_some,Sem.run_bind,Sem.run_pure,Result.andThen_ok,g1];rw[di _ ⟨g2,by omega⟩];rfl
     · refine⟨?_,by omega,q1⟩
       simp only[Instr.sliceBounds,Option.map_some,Sem.run_bind,Sem.run_pure,Result.andThen_ok,g1,f1];rw[di _ ⟨g2,by omega⟩]
       simp only[Result.andThen_ok];rw[di _ ⟨f2,by omega⟩];rfl
theorem bas (R:Rel cfg x N s a w) {o:Oper} {t:TypeId} {X:Operand} {lo hi:Option Operand} (ho:o.op= .slice t X lo hi none) {k:Nat} (hd:o.dst=some k) (hk:k<N) {p:AB} (hX:Ah X=some p)
  {ilo ihi:Option AB} (hlo:Ca lo=some ilo) (hhi:Ca hi=some ihi) (ht:P.underlying t=some .string) {b:List UInt8} (hy:val cfg s p=some (.d (.str b))) {l h:Nat} (hb:bf cfg s b.length ilo ihi=some (l,h)):
  Az P cfg x N dep (AK s (AG o.dst (.d (.str ((b.take h).drop l))))) a w o:=by
 have e:=(B9 R hX hy).DB;obtain⟨g1,g2,g3⟩:=rp (P:=P) R hlo hhi false hb (ab5 _);refine a6 R hd hk (v:= .string ⟨((b.take h).drop l).toArray⟩) ?_ (.str _);have hx:(⟨b.toArray⟩:ByteArray).extract l h=⟨((b.take h).drop l).toArray⟩:=by
  apply ByteArray.ext;apply Array.ext';rw[Lib.extract_data];simp[List.drop_take]
 have hsz:(⟨b.toArray⟩:ByteArray).size=b.length:=rfl;simp only[execOp,ho,e,Instr.sliceAt,Instr.slice,Option.map_none,Sem.run_bind,Sem.run_pure,Result.andThen_ok,run_underlying ht,Option.isSome_none,acb,if_false,hsz];rw[g1];simp only[Result.andThen_ok,Sem.run_pure,hx]
end
end Go.Ev
namespace Go.Ev
open Go
theorem Arr.sub {F:Nat→Prop} {w:World} {b o cap z:Nat} {es:List D} (A:Arr F w b o cap z es) {l h m:Nat} (h1:l≤h) (h2:h≤es.length) (h3:h≤m) (h4:m≤cap):
   Arr F w b (if m=l then o else o+l*z) (m-l) z ((es.take h).drop l):=by
 refine⟨A.pos,fun j hj=> ?_,fun e he=>A.wid e (ade (adc he)),fun e he=>A.cel e (ade (adc he)),fun i e he j c hj=> ?_⟩
 · by_cases e:m=l
   · simp[e] at hj
   · rw[if_neg e,Nat.add_assoc]
     refine A.room _ ?_;have:(m-l)*z+l*z=m*z:=by rw[← ac6];congr 1;omega
     have:=ac0 z h4;omega
 · rw[List.getElem?_drop,List.getElem?_take] at he
   split at he
   · rename_i hi
     rw[if_neg abu];obtain⟨v,q1,q2⟩:=A.els (l+i) e he j c hj;exact⟨v,by rw[show o+l*z+i*z+j=o+(l+i)*z+j by rw[ac6];omega];exact q1,q2⟩
   · cases he
theorem Rd.Gj {F:Nat→Prop} {w:World} {v:Value} {es:List D} (h:Rd F w v (.sl es)) {z:Nat} (hz:∀ e,es.head? =some e→e.cells.length=z):
  (∃ ad cap,v= .slice ad 0 cap∧es=[])∨∃ b o cap,v= .slice (some (ad3 b o)) es.length cap∧es.length≤cap∧(∀ e∈es,e.cells.length=z)∧∀ (i:Nat) e,es[i]? =some e→C9 F w b (o+i*z) e:=by
 cases h with
 |slA ad cap=>exact .inl ⟨ad,cap,rfl,rfl⟩
 |sl b o len cap z' es vs hlen Ad hw hc hm h=>
 have hzz:es≠[]→z'=z:=fun Ai=>by
  cases es with
  |nil=>exact absurd rfl Ai
  |cons e r=>rw[← hw e abw,hz e rfl]
 refine .inr ⟨b,o,cap,by rw[hlen],by omega,fun e he=>by rw[hw e he];exact hzz (List.ne_nil_of_mem he),fun i e he=> ?_⟩
 have hmem:=List.mem_of_getElem? he;have:=hzz (List.ne_nil_of_mem hmem);subst this;exact⟨hc e hmem,fun j c hj=>⟨vs i j,(hm i e he j c hj).1,(hm i e he j c hj).2,h i e he j c hj⟩⟩
theorem Rd.Hf {F:Nat→Prop} {w:World} {b o cap z:Nat} {es:List D} (Ad:es.length≤cap) (hw:∀ e∈es,e.cells.length=z)
  (h:∀ (i:Nat) e,es[i]? =some e→C9 F w b (o+i*z) e):Rd F w (.slice (some (ad3 b o)) es.length cap) (.sl es):=by
 have hv:∀ i j,∃ v,∀ e,es[i]? =some e→∀ c,e.cells[j]? =some c→F b∧w.cell? (ad3 b (o+i*z+j))=some v∧Rd F w v c:=by
  intro i j;cases he:es[i]? with
  |none=>exact⟨undef,fun e h=>by cases h⟩
  | some e=>
   cases hc:e.cells[j]? with
   |none=>exact⟨undef,fun e' h c h'=>by cases h;rw[hc] at h';cases h'⟩
   | some c=>
    obtain⟨v,h1,h2,h3⟩:=(h i e he).2 j c hc;exact⟨v,fun e' h c' h'=>by cases h;rw[hc] at h';cases h';exact⟨h1,h2,h3⟩⟩
 exact .sl b o _ cap z es (fun i j=>(hv i j).choose) rfl Ad hw (fun e he c hc=>by
   obtain⟨i,hi⟩:=acx he;exact(h i e hi).1 c hc)
  (fun i e he j c hc=>⟨((hv i j).choose_spec e he c hc).1,((hv i j).choose_spec e he c hc).2.1⟩) (fun i e he j c hc=>((hv i j).choose_spec e he c hc).2.2)
theorem bbk {z:Nat} {es:List D} (h:En z es=true):∀ e,es.head? =some e→e.cells.length=z:=by
 cases es with
 |nil=>simp
 |cons e r=>simpa[En] using h
section
variable {P:Program} {cfg:Cfg} {x:Cx} {N dep:Nat} {s:Get} {a:Act} {w:World}
theorem abh (R:Rel cfg x N s a w) {lo hi mx:Option Operand} {ilo ihi imx:Option AB} (hlo:Ca lo=some ilo) (hhi:Ca hi=some ihi) (hmx:Ca mx=some imx) {len cap top:Nat} (Ad:len≤cap)
  (ht:Ek cfg s len imx=some top) {l h:Nat} (hb:bf cfg s top ilo ihi=some (l,h)) (hg:(imx.isSome&&ihi.isNone)=false):
  ∃ m,(Instr.sliceBounds true len cap (lo.map a.eval) (hi.map a.eval) (mx.map a.eval)).run P w= .ok (l,h,m) w∧l≤h∧h≤len∧h≤m∧m≤cap:=by
 cases mx with
 | none=>
  cases hmx;simp only[Ek,Option.some.injEq] at ht;subst ht;obtain⟨g1,g2,g3⟩:=rp (P:=P) R hlo hhi true hb Ad;exact⟨cap,g1,g2,g3,by omega,ab5 _⟩
 | some M=>
  simp only[Ca,abz] at hmx;obtain⟨im,hM,rfl⟩:=hmx;simp only[Ek] at ht;split at ht
  · rename_i n hn
    split at ht
    · rename_i hn'
      cases ht;obtain⟨km,hkm⟩:=gk R hM hn;cases hi with
      |none=>cases hhi;simp at hg
      | some Y=>
       simp only[Ca,abz] at hhi;obtain⟨iy,hY,rfl⟩:=hhi;unfold bf at hb;simp only at hb;split at hb
       · cases hb
       · rename_i h' hh'
         split at hh'
         · rename_i q hq
           split at hh'
           · rename_i hq'
             cases hh';obtain⟨ky,hky⟩:=gk R hY hq;have e1:∀ c,(Instr.sliceBound (.int km n) cap c).run P w= .ok n.toNat w:=fun c=>di c ⟨hn'.1,by omega⟩
             have e2:∀ c,(Instr.sliceBound (.int ky q) n.toNat c).run P w= .ok q.toNat w:=fun c=>di c ⟨hq'.1,by omega⟩
             cases lo with
             | none=>
              cases hlo;cases hb;refine⟨n.toNat,?_,by omega,by omega,by omega,by omega⟩
              simp only[Instr.sliceBounds,Option.map_none,Option.map_some,Sem.run_bind,Sem.run_pure,Result.andThen_ok,hkm,hky,e1,e2]
             | some Z=>
              simp only[Ca,abz] at hlo;obtain⟨iz,hZ,rfl⟩:=hlo;simp only at hb;split at hb
              · rename_i r hr
                split at hb
                · rename_i hr'
                  cases hb;obtain⟨kz,hkz⟩:=gk R hZ hr;have e3:∀ c,(Instr.sliceBound (.int kz r) q.toNat c).run P w= .ok r.toNat w:=fun c=>di c ⟨hr'.1,by omega⟩
                  refine⟨n.toNat,?_,by omega,by omega,by omega,by omega⟩
                  simp only[Instr.sliceBounds,Option.map_some,Sem.run_bind,Sem.run_pure,Result.andThen_ok,hkm,hky,hkz,e1,e2,e3]
                · cases hb
              · cases hb
           · cases hh'
         · cases hh'
    · cases ht
  · cases ht
theorem bc0 (R:Rel cfg x N s a w) {o:Oper} {t el:TypeId} {X:Operand} {lo hi mx:Option Operand} (ho:o.op= .slice t X lo hi mx) {k:Nat} (hd:o.dst=some k) (hk:k<N) {p:AB} (hX:Ah X=some p)
   {ilo ihi imx:Option AB} (hlo:Ca lo=some ilo) (hhi:Ca hi=some ihi) (hmx:Ca mx=some imx) (ht:P.underlying t=some (.slice el)) {z:Nat} (hz:BO P el=some z) {y:V} (hy:val cfg s p=some y)
   {u:List (Loc×V)} (hu:gd cfg s (some k) z p y ilo ihi imx=some u):Az P cfg x N dep (AK s u) a w o:=by
 obtain⟨l0,hr,hl0⟩:=bb R hX hy;generalize hv:a.eval X=v at hr;unfold gd at hu;split at hu
 · cases hu
 · rename_i es hes
   split at hu
   · cases hu
   · rename_i top htop
     split at hu
     · cases hu
     · rename_i l h hb
       split at hu
       · cases hu
       · rename_i hg
         have hg':(imx.isSome&&ihi.isNone)=false:=Bool.eq_false_iff.2 hg;have AW:∀ ad cap,v= .slice ad es.length cap→es.length≤cap→∃ m,(execOp a.eval o).run P w= .ok (.value (.slice (if m=l then ad else ad.map (·.add (l*z))) (h-l) (m-l))) w∧
             l≤h∧h≤es.length∧h≤m∧m≤cap:=by
           intro ad cap e Ad;obtain⟨m,g1,g2⟩:=abh (P:=P) R hlo hhi hmx Ad htop hb hg';refine⟨m,?_,g2⟩;simp only[execOp,ho,hv,e,Instr.sliceAt,Instr.slice,Sem.run_bind,run_underlying ht,Result.andThen_ok];rw[g1];simp only[Result.andThen_ok,bg hz,Sem.run_pure]
         split at hu
         ·
           cases hu;cases hes;obtain⟨ad,e⟩:=hr.An.Dm;obtain⟨m,g1,g2,g3,g4,g5⟩:=AW ad 0 e (ab5 _);have h0:h=0:=by simpa using g3
           have hl:l=0:=abu;have hm:m=0:=abu;subst h0;subst hl;subst hm;rw[show AG (some k) (V.d .AL)=AG o.dst (.d .AL) by rw[hd]]
           exact a6 R hd hk g1 (by simpa using Rd.AL ad)
         ·
           split at hu
           · rename_i hz'
             cases hu;cases hes;rcases hr.An.Gj (bbk hz') with⟨ad,cap,e,hes0⟩|⟨b,o',cap,e,hc,hw,hp⟩
             · subst hes0
               obtain⟨m,g1,g2,g3,g4,g5⟩:=AW ad cap e (aco _);have h0:h=0:=by simpa using g3
               have hl:l=0:=abu;subst h0;subst hl;rw[show AG (some k) (V.d (.sl ((([]:List D).take 0).drop 0)))=AG o.dst (.d (.sl [])) by rw[hd];rfl]
               exact a6 R hd hk g1 (Rd.slA _ _)
             obtain⟨m,g1,g2,g3,g4,g5⟩:=AW _ cap e hc;rw[show AG (some k) (V.d (.sl ((es.take h).drop l)))=AG o.dst (.d (.sl ((es.take h).drop l))) by rw[hd]]
             refine a6 R hd hk g1 ?_;have hlen:((es.take h).drop l).length=h-l:=by simp;omega
             rw[show(if m=l then some (ad3 b o') else Option.map (fun q=>q.add (l*z)) (some (ad3 b o')))=some (ad3 b (if m=l then o' else o'+l*z)) by
               split<;>simp[ct],← hlen]
             refine Rd.Hf (by rw[hlen];omega) (fun e he=>hw e (ade (adc he))) (fun i e he=> ?_)
             rw[List.getElem?_drop,List.getElem?_take] at he;split at he
             · rename_i hi
               rw[if_neg abu,show o'+l*z+i*z=o'+(l+i)*z by rw[ac6];omega]
               exact hp _ e he
             · cases he
           · cases hu
         ·
           rename_i j z' _;split at hu
           · rename_i hz'
             subst hz';cases hu;cases hes;obtain⟨hl1,rfl⟩:=hl0 j rfl;have he:s (.slot j)=some (.own false z' es):=hy;obtain⟨b,o',cap,q1,q2,q3,q4⟩:=R.Bi he;have hvv:v= .slice (some (ad3 b o')) es.length cap:=by rw[← hv];simpa[Aa,Act.eval] using q1
             obtain⟨m,g1,g2,g3,g4,g5⟩:=AW _ cap hvv q3;rw[show AG (some k) (V.bor (.slot j) l (h-l))=AG o.dst (.bor (.slot j) l (h-l)) by rw[hd]]
             rw[show(if m=l then some (ad3 b o') else Option.map (fun q=>q.add (l*z')) (some (ad3 b o')))=some (ad3 b (if m=l then o' else o'+l*z')) by
               split<;>simp[ct]] at g1
             refine ap R hd hk g1 rfl (l:=none) (.bor _ _ _ _ b _ _ abu fun z2 es2 hs=> ?_)
             rw[he] at hs;cases hs;refine⟨o',_,cap,q1,by omega,?_,(q4.sub g2 g3 g4 g5).room⟩
             split
             · rename_i e;exact .inl ⟨by omega,by omega⟩
             · exact .inr rfl
           · cases hu
         ·
           rename_i j z' _;split at hu
           · rename_i hz'
             subst hz';cases hu;cases hes;obtain⟨hl1,rfl⟩:=hl0 j rfl;have he:s (.slot j)=some (.own true z' es):=hy;obtain⟨b,o',cap,q1,q2,q3,q4⟩:=R.Bi he;have hvv:v= .slice (some (ad3 b o')) es.length cap:=by rw[← hv];simpa[Aa,Act.eval] using q1
             obtain⟨m,g1,g2,g3,g4,g5⟩:=AW _ cap hvv q3;rw[show(if m=l then some (ad3 b o') else Option.map (fun q=>q.add (l*z')) (some (ad3 b o')))=some (ad3 b (if m=l then o' else o'+l*z')) by
               split<;>simp[ct]] at g1
             refine⟨_,w,x.AU b (some (.at (.slot k))),.inl g1,?_,Fr.AU q2 _⟩;rw[hd];exact R.EY hk he q2 (q4.sub g2 g3 g4 g5) (by simp;omega) abu
           · cases hu
         ·
           rename_i loc off n;split at hu
           · rename_i z' B8 hs
             split at hu
             · rename_i hz'
               subst hz';cases hu;simp only[cont,hs,Option.some.injEq] at hes;obtain⟨b,o',cap',q1,q2,q3,q4,q5⟩:=R.EN hr hs;have hn:es.length=n:=by rw[← hes];simp;omega
               obtain⟨m,g1,g2,g3,g4,g5⟩:=AW _ cap' (by rw[q1,hn]) abu
               rw[show AG (some k) (V.bor loc (off+l) (h-l))=AG o.dst (.bor loc (off+l) (h-l)) by rw[hd]]
               rw[show(if m=l then some (ad3 b o') else Option.map (fun q=>q.add (l*z')) (some (ad3 b o')))=some (ad3 b (if m=l then o' else o'+l*z')) by
                 split<;>simp[ct]] at g1
               refine ap R hd hk g1 rfl (l:=none) (.bor _ _ _ _ b _ _ abu fun z2 es2 hs2=> ?_)
               rw[hs] at hs2;cases hs2;subst q1;cases hr with
               |bor _ _ _ _ _ _ _ h4 hh=>
               obtain⟨o2,L,C,f1,f2,f3,f4⟩:=hh _ _ hs;refine⟨o2,L,C,f1,by omega,?_,(Arr.sub q5 g2 (by simp;omega) g4 g5).room⟩
               split
               · exact .inl ⟨by omega,by omega⟩
               · rcases f3 with⟨f3,f5⟩|f3
                 · omega
                 · exact .inr (by rw[f3,ac6];omega)
             · cases hu
           · cases hu
         · cases hu
end
end Go.Ev
namespace Go.Ev
open Go
section
variable {P:Program} {cfg:Cfg} {x:Cx} {N dep:Nat} {s:Get} {a:Act} {w:World}
theorem Sy (R:Rel cfg x N s a w) {o:Oper} {t el:TypeId} {X I:Operand} (ho:o.op= .indexAddr t X I) {k:Nat} (hd:o.dst=some k) (hk:k<N) {p q:AB} (hX:Ah X=some p) (hI:Ah I=some q)
   (ht:P.underlying t=some (.slice el)) {z:Nat} (hz:BO P el=some z) {y:V} (hy:val cfg s p=some y) {n:Int} (hn:(dat cfg s q).bind D.toInt? =some n)
   {u:List (Loc×V)} (hu:Br s (some k) z p y n=some u):Az P cfg x N dep (AK s u) a w o:=by
 obtain⟨l0,hr,hl0⟩:=bb R hX hy;obtain⟨kk,hji⟩:=gk R hI hn;generalize hv:a.eval X=v at hr;unfold Br at hu;split at hu
 · cases hu
 · rename_i hn0
   have AW:∀ b o' len cap,v= .slice (some (ad3 b o')) len cap→n<len→(execOp a.eval o).run P w= .ok (.value (.pointer (some (ad3 b (o'+n.toNat*z))))) w:=by
     intro b o' len cap e hlt;simp only[execOp,ho,hv,e,hji,Instr.indexAt,asIntOf,Sem.run_bind,Sem.run_pure,Result.andThen_ok,run_underlying ht,Bool.and_false];rw[if_pos ⟨by omega,hlt⟩]
     simp only[Sem.run_bind,bg hz,Result.andThen_ok,Sem.run_pure,ct]
   split at hu
   · simp only[ab7] at hu
     obtain⟨e,he,hu⟩:=hu;split at hu
     · rename_i hze
       cases hu;have hlt:=(ab1.1 he).1;have hw:∃ b o' len cap z',v= .slice (some (ad3 b o')) len cap∧n.toNat<len∧z'=z∧C9 (AE x) w b (o'+n.toNat*z') e:=by
         cases hr.An with
         |slA ad cap=>cases he
         | sl b o' len cap z' es vs hlen Ad hw hc hm h=>
           have hmem:=List.mem_of_getElem? he;refine⟨b,o',len,cap,z',rfl,by omega,by rw[← hw e hmem,hze],hc e hmem,fun j c hj=>⟨vs _ j,(hm _ e he j c hj).1,(hm _ e he j c hj).2,h _ e he j c hj⟩⟩
       obtain⟨b,o',len,cap,z',e1,e2,rfl,e3⟩:=hw;rw[show AG (some k) (V.Af e 0)=AG o.dst (.Af e 0) by rw[hd]]
       exact ap R hd hk (AW b o' len cap e1 abu) rfl (l:=none) (.Af _ b _ 0 e e3)
     · cases hu
   · rename_i j z' es
     split at hu
     · rename_i hc
       obtain⟨hc1,rfl⟩:=hc;cases hu;obtain⟨hl1,rfl⟩:=hl0 j rfl;have he:s (.slot j)=some (.own false z' es):=hy;obtain⟨b,o',cap,q1,q2,q3,q4⟩:=R.Bi he;have hvv:v= .slice (some (ad3 b o')) es.length cap:=by rw[← hv];simpa[Aa,Act.eval] using q1
       rw[show AG (some k) (V.Am (.slot j) n.toNat 0)=AG o.dst (.Am (.slot j) n.toNat 0) by rw[hd]]
       refine ap R hd hk (AW b o' _ cap hvv abu) rfl (l:=none) (.Am _ _ _ _ b _ fun z2 es2 hs=> ?_)
       rw[he] at hs;cases hs;exact⟨o',_,cap,q1,by omega⟩
     · cases hu
   · rename_i l off len
     split at hu
     · rename_i z' es hs
       split at hu
       · rename_i hc
         obtain⟨hc1,rfl⟩:=hc;cases hu;cases hr with
         |bor _ _ _ _ b o' cap' h4 hh=>
         obtain⟨o2,L,C,f1,f2,f3,f4⟩:=hh _ _ hs;rw[show AG (some k) (V.Am l (off+n.toNat) 0)=AG o.dst (.Am l (off+n.toNat) 0) by rw[hd]]
         refine ap R hd hk (AW b o' _ cap' rfl abu) rfl (l:=none) (.Am _ _ _ _ b _ fun z2 es2 hs2=> ?_)
         rw[hs] at hs2;cases hs2;refine⟨o2,L,C,f1,?_⟩;rcases f3 with⟨f3,_⟩|f3
         · omega
         · rw[f3,ac6];omega
       · cases hu
     · cases hu
   · rename_i ys
     simp only[ab7] at hu;obtain⟨y',hy',hu⟩:=hu;split at hu
     · rename_i hz1
       subst hz1;cases hu;cases hr with
       |vec _ b o' cap' _ vs Ad hm h=>
       have hlt:=(ab1.1 hy').1;rw[show AG (some k) (V.BB y')=AG o.dst (.BB y') by rw[hd]]
       refine ap R hd hk (AW b o' _ cap' rfl abu) rfl (l:=none) ?_;rw[Nat.mul_one];exact .BB _ b _ _ _ (hm _ _ hy').1 (hm _ _ hy').2 (h _ _ hy')
     · cases hu
   · cases hu
theorem fo (X:Operand) {o:Oper} {t:TypeId} (ho:o.op= .load t X) {b o':Nat} (hv:a.eval X= .pointer (some (ad3 b o'))) {v:Value} (h:(loadVar t (ad3 b o')).run P w= .ok v w):
  (execOp a.eval o).run P w= .ok (.value v) w:=by
 simp[execOp,ho,hv,Instr.loadAt,Instr.sureAddr,h]
theorem ol (u:List (Loc×V)):∀ (s:Get) {l:Loc},(∀ p∈u,p.1≠l)→AK s u l=s l:=by
 induction u with
 |nil=>intro s l _;rfl
 | cons p r ih=>
  intro s l h;obtain⟨l',y⟩:=p;rw[bc,ih _ (fun q hq=>h q (by simp[hq])),if_neg (Ne.symm (h (l',y) abw))]
theorem aaz (u:List (Loc×V)):∀ (s:Get) {l:Loc} (y:V),(∀ p∈u,p.1≠l)→∀ l',AK s ((l,y)::u) l'=AK (AK s u) [(l,y)] l':=by
 induction u with
 |nil=>intro s l y _ l';rfl
 | cons p r ih=>
  intro s l y h l';obtain⟨q,yq⟩:=p;have hq:q≠l:=h (q,yq) abw;have h1:=ih (fun l'=>if l'=q then some yq else s l') (l:=l) y (fun p hp=>h p (by simp[hp])) l'
  have h2:(fun l2=>if l2=q then some yq else(if l2=l then some y else s l2))=(fun l2=>if l2=l then some y else(if l2=q then some yq else s l2)):=by
   funext l2
   by_cases e1:l2=q
   · subst e1;simp[hq]
   · simp[e1]
  rw[bc,bc,h2];exact h1
theorem mh:∀ (n:Nat) (s:Get) (d k off:Nat) {cs:List D} {u:List (Loc×V)},c9 s d k off n=some (cs,u)→∀ p∈u,∃ i,p.1= .cell ⟨d,k,off+i⟩∧i<n
 |0,s,d,k,off,cs,u,h=>by cases h;simp
 | n+1,s,d,k,off,cs,u,h=>by
  unfold c9 at h;have key:∀ {r u'},c9 s d k (off+1) n=some (r,u')→∀ p∈u',∃ i,p.1= .cell ⟨d,k,off+i⟩∧i<n+1:=fun h' p hp=>by
    obtain⟨i,h1,h2⟩:=mh n s d k (off+1) h' p hp;exact⟨i+1,by rw[h1];congr 2;omega,by omega⟩
  split at h
  · rename_i h1 h2
    split at h
    · cases h;exact key h2
    · cases h
  · rename_i h1 h2;cases h;exact key h2
  · rename_i h1 h2
    cases h;intro p hp;rcases ach.1 hp with rfl|hp
    · exact⟨0,rfl,by omega⟩
    · exact key h2 p hp
  · cases h
theorem sz:∀ (n:Nat) (d k off:Nat) {cs:List D} {u:List (Loc×V)} (_:Rel cfg x N s a w),c9 s d k off n=some (cs,u)→
  cs.length=n∧∃ x',Rel cfg x' N (AK s u) a w∧(∀ dep,Fr dep x x' w w)∧x'.ad=x.ad∧(∀ b,x.ow b=none→x'.ow b=none)∧
    ∀ (j:Nat) c,cs[j]? =some c→∃ v,w.cell? (ad3 (x.ad d k) (off+j))=some v∧Rd (AE x') w v c∧c.AP=true
 | 0,d,k,off,cs,u,R,h=>by
  cases h;exact⟨rfl,x,R,fun _=>Fr.refl _ _ _,rfl,fun _ h=>h,fun j c h=>by simp at h⟩
 | n+1,d,k,off,cs,u,R,h=>by
  have hkeys:=mh (n+1) s d k off h;unfold c9 at h;have key:∀ {r u'},c9 s d k (off+1) n=some (r,u')→∀ y0,s (.cell ⟨d,k,off⟩)=some y0→∀ c0,c0.AP=true→
      (∀ l v,RdV x s (Aa x a w) w l v y0→Rd (AE x) w v c0)→(c0::r).length=n+1∧∃ x',Rel cfg x' N (AK s u') a w∧(∀ dep,Fr dep x x' w w)∧x'.ad=x.ad∧(∀ b,x.ow b=none→x'.ow b=none)∧
    ∀ (j:Nat) c,(c0::r)[j]? =some c→∃ v,w.cell? (ad3 (x.ad d k) (off+j))=some v∧Rd (AE x') w v c∧c.AP=true:=by
    intro r u' h' y0 hy0 c0 hc0 B7;obtain⟨g1,x',g2,g3,g4,g5,g6⟩:=sz n d k (off+1) R h';refine⟨by simp[g1],x',g2,g3,g4,g5,fun j c hj=> ?_⟩
    cases j with
    | zero=>
      simp at hj;subst hj;obtain⟨v,hv,hr⟩:=R.Bl _ _ hy0;exact⟨v,hv,(B7 _ _ hr).mono (fun b o u h1 h2=>⟨g5 b h1,h2⟩),hc0⟩
    | succ j=>
      simp at hj;obtain⟨v,q1,q2⟩:=g6 j c hj;exact⟨v,by rw[show off+(j+1)=off+1+j by omega];exact q1,q2⟩
  split at h
  · rename_i h1 h2
    split at h
    · rename_i hc;cases h;exact key h2 _ h1 _ (D.E5 hc) (fun l v hr=>hr.An.can)
    · cases h
  · rename_i h1 h2
    cases h;exact key h2 _ h1 _ rfl (fun l v hr=>hr.FF)
  · rename_i nw z es r u' h1 h2
    cases h;obtain⟨g1,x',g2,g3,g4,g5,g6⟩:=sz n d k (off+1) R h2;have Ai:∀ p∈u',p.1≠ .cell ⟨d,k,off⟩:=fun p hp=>by
      obtain⟨i,q1,_⟩:=mh n s d k (off+1) h2 p hp;rw[q1];simp;omega
    have h1':AK s u' (.cell ⟨d,k,off⟩)=some (.own nw z es):=by rw[ol u' s Ai];exact h1
    obtain⟨b,q1,_,q2⟩:=g2.release h1';have hmono:∀ b',x.ow b'=none→(x'.AU b none).ow b'=none:=fun b' hb'=>by
      simp only[Cx.AU];split
      · rfl
      · exact g5 b' hb'
    refine⟨by simp[g1],x'.AU b none,q2.congr (aaz u' s _ Ai),fun dep=>(g3 dep).trans (Fr.AU q1 _),by simp[g4],hmono,fun j c hj=> ?_⟩
    cases j with
    | zero=>
      simp at hj;subst hj;obtain⟨v,hv,hr⟩:=q2.Bl (.cell ⟨d,k,off⟩) (.d (.sl es)) (by rw[a8,if_pos rfl])
      refine⟨v,?_,hr.An,rfl⟩;simpa[Aa,g4] using hv
    | succ j=>
      simp at hj;obtain⟨v,p1,p2,p3⟩:=g6 j c hj;exact⟨v,by rw[show off+(j+1)=off+1+j by omega];exact p1,p2.mono (fun b' o u h1 h2=>⟨by
        show(x'.AU b none).ow b'=none;simp only[Cx.AU];split
        · rfl
        · exact h1,h2⟩),p3⟩
  · cases h
theorem Sv (R:Rel cfg x N s a w) {o:Oper} {t:TypeId} {X:Operand} (ho:o.op= .load t X) {k:Nat} (hd:o.dst=some k) (hk:k<N) {p:AB} (hX:Ah X=some p)
   {z:Option Nat} (hz:Eu P t=some z) {y:V} (hy:val cfg s p=some y) {u:List (Loc×V)} (hu:ea s (some k) z y=some u):Az P cfg x N dep (AK s u) a w o:=by
 obtain⟨l0,hr,_⟩:=bb R hX hy;generalize hv:a.eval X=v at hr;unfold ea at hu;split at hu
 · rename_i e off
   simp only[abz] at hu;obtain⟨r,hl,rfl⟩:=hu;cases hr with
   |Af _ b o' _ _ h=>
   obtain⟨v,g1,g2⟩:=dt hz h.cells hl;rw[← hd];exact a6 R hd hk (fo X ho hv g1) g2
 · rename_i e
   simp only[abz] at hu;obtain⟨r,hl,rfl⟩:=hu;cases hr.An with
   |ptr b o' e vs hc hm h=>
   obtain⟨v,g1,g2⟩:=dt (b:=b) (o:=o') hz ⟨hc,fun j c hj=>⟨vs j,(hm j c hj).2,h j c hj⟩⟩ hl
   rw[← hd];exact a6 R hd hk (fo X ho hv (by simpa using g1)) g2
 · rename_i l i off
   split at hu
   · rename_i z' es hs
     simp only[ab7,abz] at hu;obtain⟨e,he,r,hl,rfl⟩:=hu;cases hr with
     |Am _ _ _ _ b o' h=>
     obtain⟨o2,L,C,f1,f2⟩:=h _ _ hs;obtain⟨b2,o3,cap,q1,q2,q3,q4⟩:=R.Bi hs;rw[f1] at q1;cases q1;obtain⟨v,g1,g2⟩:=dt hz (q4.cells he) hl;rw[← hd];exact a6 R hd hk (fo X ho hv (by rw[f2];exact g1)) g2
   · cases hu
 · rename_i y'
   split at hu
   · split at hu
     · rename_i hp
       cases hu;cases hr with
       |BB _ b o' v' _ hb hm h=>
       rw[← hd];refine ap R hd hk (fo X ho hv (v:=v') ?_) (by cases y'<;>first|rfl|simp[V.AZ] at hp) h
       simp only[loadVar,Sem.run_bind,(fy hz).1,Result.andThen_ok,acb,if_false,run_load,hm]
     · cases hu
   · cases hu
 · rename_i d j off
   cases hr with
   |ref _ _ _ _ hal=>
   split at hu
   ·
     have AW:∀ v,w.cell? (ad3 (x.ad d j) off)=some v→(execOp a.eval o).run P w= .ok (.value v) w:=fun v h=>by
       refine fo X ho hv ?_;simp only[loadVar,Sem.run_bind,(fy hz).1,Result.andThen_ok,acb,if_false,run_load,h]
     split at hu
     · rename_i z' es hs
       cases hu;obtain⟨b,o',cap,q1,q2,q3,q4⟩:=R.Bi hs;rw[← hd];refine ap R hd hk (AW _ q1) rfl (l:=none) (.bor _ _ _ _ b _ _ q3 fun z2 es2 hs2=> ?_)
       rw[hs] at hs2;cases hs2;exact⟨o',_,cap,q1,by omega,.inr abu,q4.room⟩
     · rename_i y' _ hs
       split at hu
       · rename_i hp
         cases hu;obtain⟨v,q1,q2⟩:=R.Bl _ _ hs;rw[← hd];exact ap R hd hk (AW _ q1) (by cases y'<;>first|rfl|simp[V.AZ] at hp) q2
       · cases hu
     · cases hu
   ·
     rename_i n;simp only[abz] at hu;obtain⟨⟨cs,u'⟩,hg,rfl⟩:=hu;obtain⟨g1,x',g2,g3,g4,g5,g6⟩:=sz n d j off R hg;obtain⟨vs,f1,f2,f3⟩:=ng (w:=w) (F:=AE x') (cs:=cs) (f:=fun i=>w.cell? (ad3 (x.ad d j) (off+i))) (fun i c hi=>by
       obtain⟨v,e1,e2,_⟩:=g6 i c hi;exact⟨v,e1,e2⟩)
     have hlen:vs.length=n:=by rw[f1,g1]
     have hrl:=run_loadCells_list (P:=P) w (ad3 (x.ad d j) off) vs (fun i v hi=>by rw[ct];exact f2 i v hi)
     rw[hlen] at hrl;have AW:(execOp a.eval o).run P w= .ok (.value (.agg vs.toArray)) w:=by
       refine fo X ho hv ?_;simp only[loadVar,Sem.run_bind,(fw (w:=w) hz).1,(fw (w:=w) hz).2,Result.andThen_ok,if_true,hrl];rfl
     have B7:Rd (AE x') w (.agg vs.toArray) (.agg cs):= .agg vs cs f1 (fun c hc=>by
       obtain⟨i,hi⟩:=acx hc;obtain⟨_,_,_,e⟩:=g6 i c hi;exact e) f3
     refine⟨_,w,x',.inl AW,?_,g3 dep⟩;rw[bo,hd];exact g2.put hk rfl (l:=none) (.d _ _ _ B7)
 · cases hu
theorem ak9 (R:Rel cfg x N s a w):∀ {ps:List (Nat×Operand)} {l:List (Nat×AB)} (_:ej ps=some l) {ds:List (Nat×D)} (_:f7 cfg s l=some ds),
  ps.length=ds.length∧∀ (i:Nat) p d,ps[i]? =some p→ds[i]? =some d→p.1=d.1∧Rd (AE x) w (a.eval p.2) d.2
 | [],l,h,ds,h'=>by cases h;cases h';simp
 | (i,X)::ps,l,h,ds,h'=>by
  unfold ej at h;split at h
  · rename_i ix l' h1 h2
    cases h;unfold f7 at h';split at h'
    · rename_i y ys h3 h4
      cases h';obtain⟨g1,g2⟩:=ak9 R h2 h4;refine⟨by simp[g1],fun j p d e1 e2=> ?_⟩
      cases j with
      |zero=>simp at e1 e2;subst e1;subst e2;exact⟨rfl,tj R h1 h3⟩
      |succ j=>simp at e1 e2;exact g2 j p d e1 e2
    · cases h'
  · cases h
theorem bc1 (R:Rel cfg x N s a w) {o:Oper} {f:FuncId} {A B:Array Operand} (ho:o.op= .makeFunc (.func f) A B) {k:Nat} (hd:o.dst=some k) (hk:k<N) {ia ib:List AB} (hA:BM A.toList=some ia) (hB:BM B.toList=some ib)
   {xs ys:List V} (hx:BK cfg s ia=some xs) (hy:BK cfg s ib=some ys) {u:List (Loc×V)}
   (hu:(match xs,ys with
     | [],[]=>some (AG (some k) (.d (.fn f)))
     |xs,ys=>if xs.all V.AZ&&ys.all V.AZ then some (AG (some k) (.clo f xs ys)) else none)=some u):Az P cfg x N dep (AK s u) a w o:=by
 have AW:(execOp a.eval o).run P w= .ok (.value (.func (.func f) (A.map a.eval) (B.map a.eval))) w:=by simp[execOp,ho,Instr.makeFunc]
 have hvs:∀ {Xs:List Operand} {is:List AB} {vs:List V},BM Xs=some is→BK cfg s is=some vs→Xs.length=vs.length∧∀ (i:Nat) X v,Xs[i]? =some X→vs[i]? =some v→∃ l,RdV x s (Aa x a w) w l (a.eval X) v:=by
   intro Xs
   induction Xs with
   |nil=>intro is vs h1 h2;cases h1;cases h2;simp
   | cons X Xs ih=>
     intro is vs h1 h2;unfold BM at h1;split at h1
     · rename_i ix is' h3 h4
       cases h1;unfold BK at h2;split at h2
       · rename_i v vs' h5 h6
         cases h2;obtain⟨g1,g2⟩:=ih h4 h6;refine⟨by simp[g1],fun i X' v' e1 e2=> ?_⟩
         cases i with
         |zero=>simp at e1 e2;subst e1;subst e2;obtain⟨l,hr,_⟩:=bb R h3 h5;exact⟨l,hr⟩
         |succ i=>simp at e1 e2;exact g2 i X' v' e1 e2
       · cases h2
     · cases h1
 obtain⟨a1,a2⟩:=hvs hA hx;obtain⟨b1,b2⟩:=hvs hB hy;split at hu
 · cases hu
   rw[← hd];have e1:A= #[]:=by apply Array.ext';simpa using acw a1
   have e2:B= #[]:=by apply Array.ext';simpa using acw b1
   subst e1;subst e2;exact a6 R hd hk AW (by simpa using Rd.fn f)
 · split at hu
   · rename_i hp
     simp only[aca,adn] at hp;cases hu;rw[← hd];have hA':A.map a.eval=(A.toList.map a.eval).toArray:=by apply Array.ext';simp
     have hB':B.map a.eval=(B.toList.map a.eval).toArray:=by apply Array.ext';simp
     rw[hA',hB'] at AW;have hno:∀ v,V.AZ v=true→v.A5=false:=fun v h=>by cases v<;>first|rfl|simp[V.AZ] at h
     refine ap R hd hk AW rfl (l:=none) (.clo _ _ _ _ _ _ (by simpa using a1) (by simpa using b1) (fun i v y h1 h2=> ?_) (fun i v y h1 h2=> ?_))
     · rw[acf] at h1
       cases hX:A.toList[i]? with
       |none=>rw[hX] at h1;cases h1
       |some X'=>rw[hX] at h1;cases h1;obtain⟨l,hr⟩:=a2 i X' y hX h2;exact hr.Cm (hno y (hp.1 y (List.mem_of_getElem? h2)))
     · rw[acf] at h1
       cases hX:B.toList[i]? with
       |none=>rw[hX] at h1;cases h1
       |some X'=>rw[hX] at h1;cases h1;obtain⟨l,hr⟩:=b2 i X' y hX h2;exact hr.Cm (hno y (hp.2 y (List.mem_of_getElem? h2)))
   · cases hu
theorem sim_tass (R:Rel cfg x N s a w) {o:Oper} {X:Operand} {xt t:TypeId} {ok:Bool} (ho:o.op= .typeAssert X xt t ok) {k:Nat} (hd:o.dst=some k) (hk:k<N) {p:AB} (hX:Ah X=some p)
   {d:TypeDesc} (ht:P.underlying t=some d) (hni:∀ ms,d≠ .interface ms) {zero:D} (hz:Ei P t=some zero) {y:V} (hy:val cfg s p=some y) {u:List (Loc×V)} (hu:bmh (some k) t zero ok y=some u):
   Az P cfg x N dep (AK s u) a w o:=by
 obtain⟨l0,hr,_⟩:=bb R hX hy;generalize hv:a.eval X=v at hr;have hzero:∃ zv,(zeroValue t).run P w= .ok zv w∧Rd (AE x) w zv zero:=by
   simp only[Ei,ab7] at hz;obtain⟨zv,⟨i,hi,hz1⟩,hz2⟩:=hz;exact⟨zv,by simp[zeroValue,typeInfo,hi,hz1],alm hz2⟩
 obtain⟨zv,z1,z2⟩:=hzero;have tup2:∀ {v1:Value} {d1:D} {b:Bool},Rd (AE x) w v1 d1→Rd (AE x) w (.tuple #[v1,.bool b]) (.tup [d1,.bool b]):=fun {v1 d1 b} h=>
   .tup [v1,.bool b] [d1,.bool b] rfl (fun i v c h1 h2=>by
     cases i with
     |zero=>simp at h1 h2;subst h1;subst h2;exact h
     | succ i=>cases i with
       |zero=>simp at h1 h2;subst h1;subst h2;exact .bool _
       |succ i=>simp at h1)
 have AW:∀ v' r,a.eval X=v'→((do match v' with
     | .iface u q=>if u=t then(pure (if ok then .tuple #[q,.bool true] else q):Sem Value) else(if ok then do pure (.tuple #[← zeroValue t,.bool false]) else runtimePanic (.typeAssertion (some xt) (some u) t ""))
     | .nilIface=>(if ok then do pure (.tuple #[← zeroValue t,.bool false]) else runtimePanic (.typeAssertion (some xt) none t ""))
     |_=>stuck "TypeAssert: interface value expected"):Sem Value).run P w= .ok r w→(execOp a.eval o).run P w= .ok (.value r) w:=by
   intro v' r e h;simp only[execOp,ho,e,Instr.typeAssert,Sem.run_bind,run_underlying ht,Result.andThen_ok];cases d<;>first|exact absurd rfl (hni _)| (cases v'<;>first|exact(by rw[h];rfl)| (simp only[h];rfl))
 unfold bmh at hu;split at hu
 · rename_i u' q
   cases hr.An with
   |ifc _ qv _ hq=>
   split at hu
   · rename_i e
     subst e;cases hu;rw[← hd];cases ok
     · exact a6 R hd hk (AW _ qv hv abw) hq
     · exact a6 R hd hk (AW _ (.tuple #[qv,.bool true]) hv abw) (tup2 hq)
   · rename_i e
     split at hu
     · rename_i hok
       subst hok;cases hu;rw[← hd];exact a6 R hd hk (AW _ (.tuple #[zv,.bool false]) hv (by simp[e,z1])) (tup2 z2)
     · cases hu
 · split at hu
   · rename_i hok
     subst hok;cases hu;rw[← hd];have:=hr.An.UM;subst this;exact a6 R hd hk (AW _ (.tuple #[zv,.bool false]) hv (by simp[z1])) (tup2 z2)
   · cases hu
 · cases hu
end
end Go.Ev
namespace Go.Ev
open Go
theorem zk (off:Nat):∀ (xs:List Value) (j0:Nat) (cells:Array Value),off+j0+xs.length≤cells.size→
  ((xs.zipIdx j0).foldl (fun(cs:Array Value) (p:Value×Nat)=>cs.setIfInBounds (off+p.2) p.1) cells).size=cells.size∧
  ∀ m,((xs.zipIdx j0).foldl (fun(cs:Array Value) (p:Value×Nat)=>cs.setIfInBounds (off+p.2) p.1) cells)[m]? =if off+j0≤m∧m<off+j0+xs.length then xs[m-(off+j0)]? else cells[m]?
 | [],j0,cells,_=>⟨rfl,fun m=>by simp;intro h1 h2;omega⟩
 | x::xs,j0,cells,h=>by
  simp only[List.length_cons] at h;obtain⟨g1,g2⟩:=zk off xs (j0+1) (cells.setIfInBounds (off+j0) x) (by simp;omega)
  refine⟨by simpa using g1,fun m=> ?_⟩
  simp only[List.zipIdx_cons,List.foldl_cons];rw[g2 m];by_cases h1:off+(j0+1)≤m∧m<off+(j0+1)+xs.length
  · rw[if_pos h1,if_pos (by simp;omega),show m-(off+j0)=(m-(off+(j0+1)))+1 by omega];rfl
  · rw[if_neg h1]
    by_cases h2:m=off+j0
    · subst h2
      have hlt:off+j0<cells.size:=abu;rw[if_pos abw];simp[hlt]
    · rw[if_neg (by simp;omega),Array.getElem?_setIfInBounds_ne (Ne.symm h2)]
theorem jw:∀ (ds:List D) (cs:List D) (off:Nat),off+ds.length≤cs.length→(setCells cs off ds).length=cs.length∧
  ∀ m,(setCells cs off ds)[m]? =if off≤m∧m<off+ds.length then ds[m-off]? else cs[m]?
 | [],cs,off,_=>⟨rfl,fun m=>by simp[setCells];intro h1 h2;omega⟩
 | d::ds,cs,off,h=>by
  simp only[List.length_cons] at h;obtain⟨g1,g2⟩:=jw ds (cs.set off d) (off+1) (by simp;omega)
  refine⟨by simpa[setCells] using g1,fun m=> ?_⟩
  rw[setCells,g2 m];by_cases h1:off+1≤m∧m<off+1+ds.length
  · rw[if_pos h1,if_pos (by simp;omega),show m-off=(m-(off+1))+1 by omega];rfl
  · rw[if_neg h1]
    by_cases h2:m=off
    · subst h2
      have hlt:m<cs.length:=abu;rw[if_pos abw];simp[hlt]
    · rw[if_neg (by simp;omega),List.getElem?_set_ne (Ne.symm h2)]
theorem Rd.cells {F:Nat→Prop} {w:World} {v:Value} {d:D} (h:Rd F w v d) (hs:d.storable=true):v.cells.size=d.cells.length∧(∀ c∈d.cells,c.AP=true)∧
  ∀ (j:Nat) u c,v.cells[j]? =some u→d.cells[j]? =some c→Rd F w u c∧u.oneCell'=true:=by
 cases h with
 | agg vs cs hl hc h=>
  refine⟨by simp[Value.cells,D.cells,hl],hc,fun j u c h1 h2=> ?_⟩
  have h1':vs[j]? =some u:=by simpa[Value.cells] using h1
  have:=h j u c h1' h2;exact⟨this,this.DY (hc c (List.mem_of_getElem? h2))⟩
 |tup=>simp[D.storable] at hs
 | unk v hv=>
  have hvc:v.cells= #[v]:=by cases v<;>first|rfl|simp[Value.oneCell'] at hv
  refine⟨by rw[hvc];rfl,by simp[D.cells,D.AP],fun j u c h1 h2=> ?_⟩
  rw[hvc] at h1;cases j with
  |zero=>simp at h1 h2;subst h1;cases h2;exact⟨.unk _ hv,hv⟩
  |succ j=>simp at h1
 | _=>
  refine⟨rfl,by simp[D.cells,D.AP],fun j u c h1 h2=> ?_⟩
  cases j with
  |zero=>simp[Value.cells] at h1;simp[D.cells] at h2;subst h1;subst h2;exact⟨by first|assumption| (constructor<;>assumption)|constructor,rfl⟩
  |succ j=>simp[Value.cells] at h1
section
variable {F:Nat→Prop} {w:World}
structure Cw (F:Nat→Prop) (w:World) (cells:Array Value) (cs:List D):Prop where
 size:cells.size=cs.length
 cel:∀ c∈cs,c.AP=true
 rd:∀ (i:Nat) v c,cells[i]? =some v→cs[i]? =some c→Rd F w v c
theorem Cw.agg {cells:Array Value} {cs:List D} (h:Cw F w cells cs):Rd F w (.agg cells) (.agg cs):=by
 have:=Rd.agg (F:=F) (w:=w) cells.toList cs (by simpa using h.size) h.cel (fun i v c h1 h2=>h.rd i v c (by simpa using h1) h2)
 simpa using this
theorem Cw.UI {cells:Array Value} {cs:List D} (h:Rd F w (.agg cells) (.agg cs)):Cw F w cells cs:=by
 cases h with
 |agg vs cs hl hc h=>exact⟨by simpa using hl,hc,fun i v c h1 h2=>h i v c (by simpa using h1) h2⟩
theorem bma {v:Value} {d:D} (hr:Rd F w v d) (hs:d.storable=true) {cells:Array Value} {cs:List D} (h:Cw F w cells cs) {off:Nat} (hb:off+d.cells.length≤cs.length):
   Cw F w (v.cells.zipIdx.foldl (fun(cs:Array Value) (p:Value×Nat)=>cs.setIfInBounds (off+p.2) p.1) cells) (setCells cs off d.cells):=by
 obtain⟨h1,h2,h3⟩:=hr.cells hs;have e:v.cells.zipIdx.foldl (fun(cs:Array Value) (p:Value×Nat)=>cs.setIfInBounds (off+p.2) p.1) cells=
     (v.cells.toList.zipIdx 0).foldl (fun(cs:Array Value) (p:Value×Nat)=>cs.setIfInBounds (off+p.2) p.1) cells:=by
   rw[← Array.foldl_toList,Array.toList_zipIdx]
 rw[e];have hl:v.cells.toList.length=d.cells.length:=by simpa using h1
 obtain⟨g1,g2⟩:=zk off v.cells.toList 0 cells (by rw[hl,h.size];omega)
 obtain⟨f1,f2⟩:=jw d.cells cs off hb;refine⟨by rw[g1,f1,h.size],fun c hc=> ?_,fun i u c e1 e2=> ?_⟩
 · obtain⟨i,hi⟩:=acx hc
   rw[f2] at hi;split at hi
   · exact h2 c (List.mem_of_getElem? hi)
   · exact h.cel c (List.mem_of_getElem? hi)
 · rw[g2] at e1
   rw[f2] at e2;simp only[Nat.add_zero,hl] at e1;split at e1
   · rename_i hc
     rw[if_pos hc] at e2;exact(h3 (i-off) u c (by simpa using e1) e2).1
   · rename_i hc
     rw[if_neg hc] at e2;exact h.rd i u c e1 e2
theorem aqt (place:Nat→Option (Nat×Nat)):∀ (vs:List (Nat×Value)) (ds:List (Nat×Nat×D)) (cells:Array Value) (zs cs:List D),vs.length=ds.length→
  (∀ (i:Nat) p d,vs[i]? =some p→ds[i]? =some d→place p.1=some (d.1,d.2.1)∧Rd F w p.2 d.2.2)→Cw F w cells zs→EJ zs ds=some cs→
  ∃ cells',Instr.fill place cells vs=some cells'∧Cw F w cells' cs
 | [],[],cells,zs,cs,_,_,h,hf=>by cases hf;exact⟨cells,rfl,h⟩
 | p::vs,d::ds,cells,zs,cs,hl,hp,h,hf=>by
  obtain⟨off,n,d⟩:=d;obtain⟨i,v⟩:=p;unfold EJ at hf;split at hf
  · rename_i hc
    obtain⟨c1,c2,c3⟩:=hc;obtain⟨p1,p2⟩:=hp 0 (i,v) (off,n,d) rfl rfl;simp only at p1 p2;obtain⟨r1,r2,r3⟩:=p2.cells c3;have h':=bma p2 c3 h (off:=off) abu;obtain⟨cells',g1,g2⟩:=aqt place vs ds _ _ cs (by simpa using hl) (fun j p d e1 e2=>hp (j+1) p d (by simpa using e1) (by simpa using e2)) h' hf
    refine⟨cells',?_,g2⟩;have hb:(v.cells.size≠n||decide (off+v.cells.size>cells.size))=false:=by
     have:=h.size;simp;omega
    simp only[Instr.fill,p1,hb,acb,if_false];exact g1
  · simp at hf
 | [],_::_,_,_,_,hl,_,_,_=>by simp at hl
 |_::_,[],_,_,_,hl,_,_,_=>by simp at hl
end
