import Derived.Deep.Fields
import Derived.WideShapes
import Derived.ChangeShapes
import Derived.Test.YtkdiccgfbfbjlaaGreatLawColumnWords
import Derived.Test.YtkdiccgfbfbjlaaGreatL8
import Derived.Test.YtkdiccgfbfbjlaaGreatL9
namespace Go.Me
open Go Go.Deep Go.ChangeShapes Go.WideShapes
def aed (P:Program) (fs:Array Field):Bool:=oneCellFields P fs&&fs.toList.all fun f=>match P.underlying f.type with
 |some (.int .i64)=>true
 |_=>false
theorem open_nums {H:Type} {enc:TypeId×Value→H} {P:Program} {w:World} {base b0:Nat} {spare:Nat→Bool} {held:Bool} {r:Reach} {t:TypeId} {fs:Array Field} {v:Value} {d:DataW H} {p:List MemPlace} (hs:P.underlying t=some (.struct fs)) (hi:aed P fs=true) (hC:P.cellsOf t=fs.size)
   (hv:Value.okWide P w r b0 t v) (h:DataW.Trod enc P w base spare held t v d p):∃ ns:List Int,v= .agg (ns.map (Value.int .i64)).toArray∧ns.length=fs.size∧∀ n∈ns,(Lit.int .i64 n).wf=true:=by
 obtain⟨cs,rfl,hsz⟩:=okWide_struct hs hv;obtain⟨fuel,hf⟩:=h;obtain⟨xs,n,_,_,hl,hxl,hfs⟩:=DataW.trod_struct hs hf;simp only[aed,Bool.and_eq_true] at hi;have hone:=hone_of hi.1;rw[hC] at hsz;have each:∀ i (hlt:i<cs.size),∃ m,cs[i]= .int .i64 m∧(Lit.int .i64 m).wf=true:=fun i hlt=>by
   have hif:i<fs.size:=by omega
   obtain⟨o1,o2⟩:=hone i fs[i] (Array.getElem?_eq_getElem hif);have h1:=hfs i fs[i] (Array.getElem?_eq_getElem hif);rw[o1,o2,take1_drop _ i undef (by simpa[Value.cells] using hlt)] at h1
   obtain⟨y,hy⟩:∃ y,xs[i]? =some y:=⟨_,List.getElem?_eq_getElem (by omega)⟩
   rw[hy] at h1;have ht:=List.all_eq_true.1 hi.2 fs[i] (by simp)
   split at ht
   · rename_i hu
     obtain⟨m,g1,_,g3⟩:=DataW.trod_int hu h1;refine⟨m,?_,g3⟩;have:cs.toList.getD i undef=cs[i]:=by simp[List.getD_eq_getElem?_getD,hlt]
     simp only[Value.cells,this] at g1;simpa using g1
   · cases ht
 refine⟨cs.toList.map fun v=>match v with| .int _ m=>m|_=>0,?_,by simp[hsz],fun m hm=> ?_⟩
 · congr 1
   apply Array.ext
   · simp
   · intro i h1 h2
     obtain⟨m,g1,_⟩:=each i h1;simp[g1]
 · obtain⟨v,hv,rfl⟩:=List.mem_map.1 hm
   obtain⟨i,hi,rfl⟩:=List.getElem_of_mem hv;obtain⟨m,g1,g2⟩:=each i (by simpa using hi)
   simp only[Array.getElem_toList,g1];exact g2
end Go.Me
namespace Go.Proofs.YtkdiccgfbfbjlaaGreat
open Go Go.Ev Go.RowKit Go.WideShapes
set_option maxRecDepth 100000
theorem ayl {H:Type} {enc:TypeId×Value→H} {w:World} {base b0:Nat} {spare:Nat→Bool} {held:Bool} {r:Reach} {v:Value} {d:DataW H} {p:List MemPlace} (hv:Value.okWide Tryz.prog w r b0 28 v) (h:DataW.Trod enc Tryz.prog w base spare held 28 v d p):∃ o:Op,Rd anyB w v o.d:=by
 obtain⟨ns,rfl,hl,_⟩:=Go.Me.open_nums Tryz.underlying28 yr yr hv h
 match ns,hl with
 | [a,b,c,d,e,f],_=>
  refine⟨⟨a,b,c,d,e,f⟩,.agg [.int .i64 a,.int .i64 b,.int .i64 c,.int .i64 d,.int .i64 e,.int .i64 f] _ rfl (fun c hc=> ?_) (fun i v c h1 h2=> ?_)⟩
  · simp only[zr,aay,or_false] at hc
    rcases hc with rfl|rfl|rfl|rfl|rfl|rfl<;>rfl
  · match i,h1,h2 with
    |0,h1,h2=>cases h1;cases h2;exact .int _ _
    |1,h1,h2=>cases h1;cases h2;exact .int _ _
    |2,h1,h2=>cases h1;cases h2;exact .int _ _
    |3,h1,h2=>cases h1;cases h2;exact .int _ _
    |4,h1,h2=>cases h1;cases h2;exact .int _ _
    |5,h1,h2=>cases h1;cases h2;exact .int _ _
    |i+6,h1,h2=>simp at h1
theorem rr (a:List Tx) (o:Op) (h:a.length≤maxLen):evL cfg n_aa 0 [.d (.sl (a.map txt)),.d o.d] []=some (.d (.bool (true)),[]):=rx a (by unfold maxLen at h;omega) o
