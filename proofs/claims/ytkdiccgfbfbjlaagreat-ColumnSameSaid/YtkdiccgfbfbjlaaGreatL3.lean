import Derived.Test.YtkdiccgfbfbjlaaGreatL2
namespace Go.Ev
open Go
section
variable {F:Nat→Prop} {w:World}
structure DA (F:Nat→Prop) (w:World) (cells:Array Value) (z:Nat) (es:List D):Prop where
 size:cells.size=es.length*z
 wid:∀ e∈es,e.cells.length=z
 cel:∀ e∈es,∀ c∈e.cells,c.AP=true
 els:∀ (i:Nat) e,es[i]? =some e→∀ (j:Nat) c,e.cells[j]? =some c→∃ v,cells[i*z+j]? =some v∧Rd F w v c∧v.oneCell'=true
theorem DA.mono {F':Nat→Prop} {w':World} {cells:Array Value} {z:Nat} {es:List D} (h:DA F w cells z es)
  (hc:∀ b o u,F b→w.cell? (ad3 b o)=some u→F' b∧w'.cell? (ad3 b o)=some u):DA F' w' cells z es:=
 ⟨h.size,h.wid,h.cel,fun i e he j c hj=>let⟨v,h1,h2,h3⟩:=h.els i e he j c hj;⟨v,h1,h2.mono hc,h3⟩⟩
theorem vw {i n j z:Nat} (h:i<n) (hj:j<z):i*z+j<n*z:=by
 have:(i+1)*z≤n*z:=ac0 z h;rw[ac6] at this;omega
theorem DA.set {v:Value} {d:D} (hr:Rd F w v d) (hs:d.storable=true) {cells:Array Value} {z:Nat} {es:List D} (h:DA F w cells z es) {i:Nat} (hi:i<es.length) (hd:d.cells.length=z):
   DA F w (v.cells.zipIdx.foldl (fun(cs:Array Value) (p:Value×Nat)=>cs.setIfInBounds (i*z+p.2) p.1) cells) z (es.set i d):=by
 obtain⟨h1,h2,h3⟩:=hr.cells hs;have e:v.cells.zipIdx.foldl (fun(cs:Array Value) (p:Value×Nat)=>cs.setIfInBounds (i*z+p.2) p.1) cells=
     (v.cells.toList.zipIdx 0).foldl (fun(cs:Array Value) (p:Value×Nat)=>cs.setIfInBounds (i*z+p.2) p.1) cells:=by
   rw[← Array.foldl_toList,Array.toList_zipIdx]
 rw[e];have hl:v.cells.toList.length=z:=by simpa[hd] using h1
 have hb:i*z+z≤cells.size:=by
   rw[h.size];have:(i+1)*z≤es.length*z:=ac0 z hi;rw[ac6] at this;omega
 obtain⟨g1,g2⟩:=zk (i*z) v.cells.toList 0 cells (by rw[hl];omega)
 refine⟨by rw[g1,h.size];simp,fun e he=> ?_,fun e he=> ?_,fun i' e' he j c hj=> ?_⟩
 · rcases adh he with he|rfl
   · exact h.wid e he
   · exact hd
 · rcases adh he with he|rfl
   · exact h.cel e he
   · exact h2
 · have hjz:j<z:=by
     have hm:e'∈es.set i d:=List.mem_of_getElem? he;have:e'.cells.length=z:=by
       rcases adh hm with hm|rfl
       · exact h.wid _ hm
       · exact hd
     rw[← this];exact(ab1.1 hj).1
   simp only[g2,Nat.add_zero,hl];by_cases e1:i'=i
   · subst e1
     rw[List.getElem?_set_self hi] at he;cases he;rw[if_pos abu,show i'*z+j-i'*z=j by omega]
     have hjl:j<v.cells.size:=by rw[h1,hd];exact hjz
     obtain⟨q1,q2⟩:=h3 j (v.cells[j]) c (acm hjl) hj;exact⟨v.cells[j],by simp[hjl],q1,q2⟩
   · rw[List.getElem?_set_ne (Ne.symm e1)] at he
     rw[if_neg]
     · exact h.els i' e' he j c hj
     · intro ⟨q1,q2⟩
       rcases Nat.lt_or_gt_of_ne e1 with hlt|hgt
       · have:(i'+1)*z≤i*z:=ac0 z hlt
         rw[ac6] at this;omega
       · have:(i+1)*z≤i'*z:=ac0 z hgt
         rw[ac6] at this;omega
theorem a9y (z:Nat):∀ (vs:List (Nat×Value)) (ds:List (Nat×D)) (cells:Array Value) (zs es:List D),vs.length=ds.length→
  (∀ (i:Nat) p d,vs[i]? =some p→ds[i]? =some d→p.1=d.1∧Rd F w p.2 d.2)→DA F w cells z zs→Eo z zs ds=some es→
  (∃ cells',Instr.fill (fun i=>some (i*z,z)) cells vs=some cells'∧DA F w cells' z es)∧es.length=zs.length
 | [],[],cells,zs,es,_,_,h,hf=>by cases hf;exact⟨⟨cells,rfl,h⟩,rfl⟩
 | p::vs,d::ds,cells,zs,es,hl,hp,h,hf=>by
  obtain⟨i',d⟩:=d;obtain⟨i,v⟩:=p;unfold Eo at hf;split at hf
  · rename_i hc
    obtain⟨c1,c2,c3⟩:=hc;obtain⟨p1,p2⟩:=hp 0 (i,v) (i',d) rfl rfl;simp only at p1 p2;subst p1;obtain⟨r1,r2,r3⟩:=p2.cells c3;have h':=h.set p2 c3 c2 c1;obtain⟨⟨cells',g1,g2⟩,g3⟩:=a9y z vs ds _ _ es (by simpa using hl) (fun j p d e1 e2=>hp (j+1) p d (by simpa using e1) (by simpa using e2)) h' hf
    refine⟨⟨cells',?_,g2⟩,by simpa using g3⟩
    have hb:(v.cells.size≠z||decide (i*z+v.cells.size>cells.size))=false:=by
     have h1:=h.size;have h2:(i+1)*z≤zs.length*z:=ac0 z c2;rw[ac6] at h2;simp;omega
    simp only[Instr.fill,hb,acb,if_false];exact g1
  · simp at hf
 | [],_::_,_,_,_,hl,_,_,_=>by simp at hl
 |_::_,[],_,_,_,hl,_,_,_=>by simp at hl
theorem DA.Zb {zv:Value} {zd:D} {z n:Nat} (h:Rd F w zv zd) (hs:zd.storable=true) (hz:zd.cells.length=z) (hz0:z≠0):
  DA F w ((Array.range (n*z)).map (zv.cells[· % zv.cells.size]!)) z (List.replicate n zd):=by
 obtain⟨h1,h2,h3⟩:=h.cells hs;refine⟨by simp,fun e he=>by rw[List.eq_of_mem_replicate he];exact hz,fun e he=>by rw[List.eq_of_mem_replicate he];exact h2,fun i e he j c hj=> ?_⟩
 obtain⟨hi,rfl⟩:i<n∧e=zd:=by
  rw[List.getElem?_replicate] at he;split at he
  · exact⟨by assumption,by cases he;rfl⟩
  · cases he
 have hjz:j<z:=by rw[← hz];exact(ab1.1 hj).1
 have hjs:j<zv.cells.size:=by rw[h1,hz];exact hjz
 obtain⟨q1,q2⟩:=h3 j zv.cells[j] c (acm hjs) hj;refine⟨zv.cells[j],?_,q1,q2⟩;have hlt:=vw hi hjz;rw[Array.getElem?_map,Array.getElem?_range];simp only[hlt,if_true,Option.map_some,Option.some.injEq];rw[h1,hz,show(i*z+j) % z=j by rw[Nat.mul_comm,Nat.mul_add_mod,ads hjz]]
 simp[hjs]
end
section
variable {P:Program} {cfg:Cfg} {x:Cx} {N dep:Nat} {s:Get} {a:Act} {w:World}
theorem YI {cells:Array Value} {z:Nat} {es:List D} (h:DA (AE x) w cells z es) (ty:TypeId) (R:Rel cfg x N s a w):
   ∀ (i:Nat) e,es[i]? =some e→C9 (AE (x.AU w.heap.size none)) (w.alloc (.cells cells ty)) w.heap.size (0+i*z) e:=by
 intro i e he;refine⟨h.cel e (List.mem_of_getElem? he),fun j c hj=> ?_⟩
 obtain⟨v,q1,q2,_⟩:=h.els i e he j c hj;refine⟨v,by simp[AE],?_,q2.mono (fun b o u h1 h2=>⟨?_,?_⟩)⟩
 · rw[show ad3 w.heap.size (0+i*z+j)=⟨w.heap.size,i*z+j,none⟩ by simp[ad3]]
   rw[World.cell?_alloc_new];exact q1
 · show(x.AU w.heap.size none).ow b=none
   simp only[Cx.AU];split
   · rfl
   · exact h1
 · have:=World.block_lt_of_cell? _ _ h2
   rw[World.cell?_alloc_lt _ _ _ this];exact h2
theorem zr {cells:Array Value} {z cap:Nat} {es:List D} (h:DA (AE x) w cells z es) (hz:z≠0) (Ad:es.length≤cap) (cells2:Array Value) (hsz:cells2.size=cap*z)
   (hpre:∀ (m:Nat) v,cells[m]? =some v→cells2[m]? =some v) (ty:TypeId) (o:Option Own) (ho:o≠none) (w0:World) (hw:w0.heap=w.heap) (R:Rel cfg x N s a w):
   Arr (AE (x.AU w.heap.size o)) (w0.alloc (.cells cells2 ty)) w.heap.size 0 cap z es:=by
 refine⟨hz,fun j hj=>⟨⟨cells2[j]'(by omega),?_⟩,?_⟩,h.wid,h.cel,fun i e he j c hj=> ?_⟩
 · rw[← hw,show ad3 w0.heap.size (0+j)=⟨w0.heap.size,j,none⟩ by simp[ad3],World.cell?_alloc_new]
   simp[hsz,hj]
 · rw[← hw,show ad3 w0.heap.size (0+j)=⟨w0.heap.size,j,none⟩ by simp[ad3],World.frozen?_alloc_new]
 · obtain⟨v,q1,q2,_⟩:=h.els i e he j c hj
   refine⟨v,?_,q2.mono (fun b o' u h1 h2=>⟨?_,?_⟩)⟩
   · rw[← hw,show ad3 w0.heap.size (0+i*z+j)=⟨w0.heap.size,i*z+j,none⟩ by simp[ad3],World.cell?_alloc_new]
     exact hpre _ _ q1
   · have hlt:=World.block_lt_of_cell? _ _ h2
     show(x.AU w.heap.size o).ow b=none;rw[Cx.AO];· exact h1
     simp at hlt;omega
   · have hlt:=World.block_lt_of_cell? _ _ h2
     rw[World.cell?_alloc_lt _ _ _ (by rw[hw];exact hlt)]
     simpa[World.cell?,hw] using h2
theorem XE (R:Rel cfg x N s a w) {o:Oper} {t e:TypeId} {n:Nat} {ps:Array (Nat×Operand)} (ho:o.op= .buildSlice t n ps) {k:Nat} (hd:o.dst=some k) (hk:k<N) (ht:P.underlying t=some (.slice e))
   {z:Nat} (hz:BO P e=some z) {zd:D} (hzd:Ei P e=some zd) {l:List (Nat×AB)} (hl:ej ps.toList=some l) (hz0:z≠0) (hz1:z≤1000) (hn:n≤1000)
   {ds:List (Nat×D)} (hds:f7 cfg s l=some ds) (hzl:zd.cells.length=z) (Bz:zd.storable=true) {es:List D} (hf:Eo z (List.replicate n zd) ds=some es) (own:Bool):
   Az P cfg x N dep (AK s (AG (some k) (if n=0 then .d .AL else if own then .own true z es else .d (.sl es)))) a w o:=by
 obtain⟨g1,g2⟩:=ak9 R hl hds;have hzero:∃ zv,(zeroValue e).run P w= .ok zv w∧Rd (AE x) w zv zd:=by
   simp only[Ei,ab7] at hzd;obtain⟨zv,⟨i,hi,hz1⟩,hz2⟩:=hzd;exact⟨zv,by simp[zeroValue,typeInfo,hi,hz1],alm hz2⟩
 obtain⟨zv,z1,z2⟩:=hzero;have hzeros:=DA.Zb (n:=n) z2 Bz hzl hz0;obtain⟨⟨cells',f1,f2⟩,f3⟩:=a9y z (ps.toList.map fun p=>(p.1,a.eval p.2)) ds _ _ es (by simpa using g1) (fun i p d e1 e2=>by
   rw[acf] at e1;cases hp:ps.toList[i]? with
   |none=>rw[hp] at e1;cases e1
   |some p'=>rw[hp] at e1;cases e1;exact g2 i p' d hp e2) hzeros hf
 have hes:es.length=n:=by simpa using f3
 have AW:(execOp a.eval o).run P w= .ok (.value (.slice (some (ad3 w.heap.size 0)) n n)) (w.alloc (.cells cells' e)):=by
   have hpl:(ps.map fun(i,x)=>(i,a.eval x)).toList=ps.toList.map fun p=>(p.1,a.eval p.2):=by simp
   have hnz:¬ n*z>2 ^ 24:=by
     have:n*z≤1000*1000:=Nat.mul_le_mul hn hz1;omega
   simp only[execOp,ho,Instr.buildSlice,Sem.run_bind,run_underlying ht,Result.andThen_ok,bg hz,hnz,if_false,hpl];by_cases h0:n*z=0
   · have hn0:n=0:=by rcases Nat.mul_eq_zero.1 h0 with h|h<;>omega
     subst hn0;have e0:∀ f:Nat→Value,(Array.range 0).map f= #[]:=fun f=>by simp
     simp only[Nat.zero_mul,e0] at f1;simp only[Nat.zero_mul,if_true,pure_bind,e0,f1];rfl
   · simp only[h0,if_false,Sem.run_bind,z1,Result.andThen_ok,Sem.run_pure,f1]
     rfl
 by_cases hn0:n=0
 · subst hn0
   refine⟨_,_,x.AU w.heap.size none,.inl AW,?_,Fr.alloc _ _⟩;rw[hd,if_pos rfl];exact(R.alloc (.cells cells' e) none).put hk rfl (l:=none) (.d _ _ _ (.AL _))
 rw[if_neg hn0];cases own
 · refine⟨_,_,x.AU w.heap.size none,.inl AW,?_,Fr.alloc _ _⟩
   rw[hd];refine(R.alloc (.cells cells' e) none).put hk rfl (l:=none) (.d _ _ _ ?_);rw[← hes];exact Rd.Hf abu f2.wid (YI f2 e R)
 · refine⟨_,_,x.AU w.heap.size (some (.at (.slot k))),.inl AW,?_,Fr.alloc _ _⟩
   rw[hd];refine(R.alloc (.cells cells' e) (some (.at (.slot k)))).putAt hk abw ?_;exact .own _ _ _ _ n z true es abw hes (ab5 _) (zr f2 hz0 abu cells' (by rw[f2.size,hes]) (fun _ _ h=>h) e _ abw w rfl R)
theorem aqu (place:Nat→Option (Nat×Nat)):∀ (ps:List (Nat×Value)) (i:Nat) (cells:Array Value),(∀ (m:Nat) p,ps[m]? =some p→place p.1=some (i+m,1)∧p.2.cells= #[p.2])→i+ps.length≤cells.size→
  ∃ cells',Instr.fill place cells ps=some cells'∧cells'.size=cells.size∧(∀ j,j<i→cells'[j]? =cells[j]?)∧∀ (m:Nat) p,ps[m]? =some p→cells'[i+m]? =some p.2
 | [],i,cells,_,_=>⟨cells,rfl,rfl,fun _ _=>rfl,fun m p h=>by simp at h⟩
 | (j,v)::ps,i,cells,h,hs=>by
  obtain⟨h1,h2⟩:=h 0 (j,v) rfl;simp only[Nat.add_zero] at h1 h2;simp only[List.length_cons] at hs;obtain⟨cells',g1,g2,g3,g4⟩:=aqu place ps (i+1) (cells.setIfInBounds i v) (fun m p hp=>by
    obtain⟨q1,q2⟩:=h (m+1) p (by simpa using hp)
    exact⟨by rw[q1];congr 2;omega,q2⟩) (by simp;omega)
  refine⟨cells',?_,by simpa using g2,fun i' hi=> ?_,fun m p hp=> ?_⟩
  · have hb:(v.cells.size≠1||decide (i+v.cells.size>cells.size))=false:=by
     rw[h2];simp;omega
    simp only[Instr.fill,h1,hb,acb,if_false,h2];have hsz:i+1≤cells.size:=abu;simpa[hsz] using g1
  · rw[g3 i' abu,Array.getElem?_setIfInBounds_ne abu]
  · cases m with
    | zero=>
     simp only[List.getElem?_cons_zero,Option.some.injEq] at hp;subst hp;have hsz:i<cells.size:=abu;rw[Nat.add_zero,g3 i abu,Array.getElem?_setIfInBounds,if_pos rfl,if_pos hsz]
    | succ m=>
     rw[show i+(m+1)=i+1+m by omega]
     exact g4 m p (by simpa using hp)
theorem U5 (ps:List (Nat×Value)) (i:Nat) (cells:Array Value) (h:∀ (m:Nat) p,ps[m]? =some p→p.1=i+m∧p.2.cells= #[p.2]) (hs:i+ps.length≤cells.size):
  ∃ cells',Instr.fill (fun i=>some (i*1,1)) cells ps=some cells'∧cells'.size=cells.size∧(∀ j,j<i→cells'[j]? =cells[j]?)∧∀ (m:Nat) p,ps[m]? =some p→cells'[i+m]? =some p.2:=
 aqu _ ps i cells (fun m p hp=>⟨by rw[(h m p hp).1,Nat.mul_one],(h m p hp).2⟩) hs
theorem bdm (R:Rel cfg x N s a w):∀ {ps:List (Nat×Operand)} {l:List (Nat×AB)} (_:ej ps=some l) {i:Nat} {ys:List V} (_:dc cfg s i l=some ys),
  ps.length=ys.length∧∀ (m:Nat) p,ps[m]? =some p→∃ d k o,ys[m]? =some (.ref d k o)∧p.1=i+m∧RdV x s (Aa x a w) w none (a.eval p.2) (.ref d k o)
 | [],l,h,i,ys,h'=>by cases h;cases h';simp
 | (j,X)::ps,l,h,i,ys,h'=>by
  unfold ej at h;split at h
  · rename_i ix l' h1 h2
    cases h;unfold dc at h';split at h'
    · rename_i d k o h3
      split at h'
      · rename_i hj
        subst hj;simp only[abz] at h';obtain⟨ys',h4,rfl⟩:=h';obtain⟨g1,g2⟩:=bdm R h2 h4;refine⟨by simp[g1],fun m p hp=> ?_⟩
        cases m with
        | zero=>
         simp only[List.getElem?_cons_zero,Option.some.injEq] at hp;subst hp;obtain⟨l0,hr,_⟩:=bb R h1 h3;exact⟨d,k,o,rfl,rfl,hr.Cm rfl⟩
        | succ m=>
         obtain⟨d',k',o',q1,q2,q3⟩:=g2 m p (by simpa using hp)
         exact⟨d',k',o',by simpa using q1,by omega,q3⟩
      · cases h'
    · cases h'
  · cases h
theorem W8 (R:Rel cfg x N s a w) {o:Oper} {t e:TypeId} {n:Nat} {ps:Array (Nat×Operand)} (ho:o.op= .buildSlice t n ps) {k:Nat} (hd:o.dst=some k) (hk:k<N) (ht:P.underlying t=some (.slice e))
  (hz:BO P e=some 1) {zd:D} (hzd:Ei P e=some zd) {l:List (Nat×AB)} (hl:ej ps.toList=some l) (hn:n≤1000)
  {y0:V} {ys:List V} (hr:dc cfg s 0 l=some (y0::ys)) (hy:n=(y0::ys).length):
  Az P cfg x N dep (AK s (AG (some k) (.vec (y0::ys)))) a w o:=by
 obtain⟨g1,g2⟩:=bdm R hl hr;have hzero:∃ zv,(zeroValue e).run P w= .ok zv w:=by
  simp only[Ei,ab7] at hzd;obtain⟨zv,⟨i,hi,hz1⟩,hz2⟩:=hzd;exact⟨zv,by simp[zeroValue,typeInfo,hi,hz1]⟩
 obtain⟨zv,z1⟩:=hzero;have Un:∀ (m:Nat) p,(ps.toList.map fun p=>(p.1,a.eval p.2))[m]? =some p→∃ d k o,(y0::ys)[m]? =some (.ref d k o)∧p.1=0+m∧p.2= .pointer (some (ad3 (x.ad d k) o))∧(s (.cell ⟨d,k,0⟩)).isSome:=fun m p hp=>by
  rw[acf] at hp;cases hq:ps.toList[m]? with
  |none=>rw[hq] at hp;cases hp
  | some q=>
    rw[hq] at hp;cases hp;obtain⟨d,k,o,q1,q2,q3⟩:=g2 m q hq;generalize hv:a.eval q.2=v at q3;cases q3 with
    |ref _ _ _ _ hs=>exact⟨d,k,o,q1,q2,hv,hs⟩
 obtain⟨cells',f1,f2,_,f4⟩:=U5 (ps.toList.map fun p=>(p.1,a.eval p.2)) 0 ((Array.range (n*1)).map (zv.cells[· % zv.cells.size]!)) (fun m p hp=>by
  obtain⟨d,k,o,_,q2,q3,_⟩:=Un m p hp;exact⟨q2,by rw[q3];rfl⟩) (by simp only[aby,Array.size_map,Array.size_range,g1,hy];omega)
 have hn0:n≠0:=by rw[hy];simp
 have AW:(execOp a.eval o).run P w= .ok (.value (.slice (some (ad3 w.heap.size 0)) n n)) (w.alloc (.cells cells' e)):=by
  have hpl:(ps.map fun(i,x)=>(i,a.eval x)).toList=ps.toList.map fun p=>(p.1,a.eval p.2):=by simp
  have hnz:¬ n*1>2 ^ 24:=abu;have h0:¬ n*1=0:=abu;simp only[execOp,ho,Instr.buildSlice,Sem.run_bind,run_underlying ht,Result.andThen_ok,bg hz,hnz,if_false,hpl];simp only[h0,if_false,Sem.run_bind,z1,Result.andThen_ok,Sem.run_pure,f1];rfl
 refine⟨_,_,x.AU w.heap.size none,.inl AW,?_,Fr.alloc _ _⟩;rw[hd];refine(R.alloc (.cells cells' e) none).put hk rfl (l:=none) ?_;have hm:∀ (i:Nat) y,(y0::ys)[i]? =some y→∃ d k o,y= .ref d k o∧cells'[i]? =some (.pointer (some (ad3 (x.ad d k) o)))∧(s (.cell ⟨d,k,0⟩)).isSome:=fun i y hi=>by
  have hlt:=(ab1.1 hi).1;have hlt':i<(ps.toList.map fun p=>(p.1,a.eval p.2)).length:=by rw[aby,g1];exact hlt
  obtain⟨d,k,o,q1,q2,q3,q4⟩:=Un i _ (ab0 hlt');rw[hi] at q1;cases q1;have:=f4 i _ (ab0 hlt');rw[Nat.zero_add,q3] at this;exact⟨d,k,o,rfl,this,q4⟩
 have hfin:RdV (x.AU w.heap.size none) s (Aa (x.AU w.heap.size none) a (w.alloc (.cells cells' e))) (w.alloc (.cells cells' e)) none (.slice (some (ad3 w.heap.size 0)) (y0::ys).length n) (.vec (y0::ys)):=by
  refine .vec _ w.heap.size 0 n (y0::ys) (fun i=>(cells'[i]?).getD undef) abu (fun i y hi=> ?_) (fun i y hi=> ?_)
  · obtain⟨d,k,o,_,q2,_⟩:=hm i y hi
    refine⟨by simp[AE],?_⟩
    rw[show ad3 w.heap.size (0+i)=⟨w.heap.size,i,none⟩ by simp[ad3],World.cell?_alloc_new,q2]
    rfl
  · obtain⟨d,k,o,rfl,q2,q3⟩:=hm i y hi
    rw[q2];exact .ref _ d k o q3
 rw[← hy] at hfin;exact hfin
theorem ox:∀ (fs:List Field) (pl:List (Nat×Nat)),oy P fs=some pl→fs.mapM (fun f=>(P.info? f.type).map fun i=>(f.offset,i.size))=some pl
 | [],pl,h=>by cases h;rfl
 | f::fs,pl,h=>by
  unfold oy at h;split at h
  · rename_i n l h1 h2
    cases h;simp only[BO,abz] at h1;obtain⟨i,hi,rfl⟩:=h1;simp[List.mapM_cons,hi,ox fs l h2]
  · cases h
theorem wy (R:Rel cfg x N s a w) (pl:List (Nat×Nat)):∀ {ps:List (Nat×Operand)} {l:List (Nat×Nat×AB)} (_:kr pl ps=some l) {ds:List (Nat×Nat×D)} (_:de cfg s l=some ds),
  ps.length=ds.length∧∀ (i:Nat) p d,ps[i]? =some p→ds[i]? =some d→pl[p.1]? =some (d.1,d.2.1)∧Rd (AE x) w (a.eval p.2) d.2.2
 | [],l,h,ds,h'=>by cases h;cases h';simp
 | (i,X)::ps,l,h,ds,h'=>by
  unfold kr at h;split at h
  · rename_i o n ix l' h0 h1 h2
    cases h;unfold de at h';split at h'
    · rename_i y ys h3 h4
      cases h';obtain⟨g1,g2⟩:=wy R pl h2 h4;refine⟨by simp[g1],fun j p d e1 e2=> ?_⟩
      cases j with
      |zero=>simp at e1 e2;subst e1;subst e2;exact⟨h0,tj R h1 h3⟩
      |succ j=>simp at e1 e2;exact g2 j p d e1 e2
    · cases h'
  · cases h
theorem bc9 (R:Rel cfg x N s a w) {o:Oper} {t:TypeId} {ps:Array (Nat×Operand)} (ho:o.op= .build t ps) {k:Nat} (hd:o.dst=some k) (hk:k<N) {fs:Array Field} (ht:P.underlying t=some (.struct fs))
  {zs:List D} (hzd:Cj P t=some (.agg zs)) {pl:List (Nat×Nat)} (hpl:oy P fs.toList=some pl) {l:List (Nat×Nat×AB)} (hl:kr pl ps.toList=some l)
  {ds:List (Nat×Nat×D)} (hds:de cfg s l=some ds) {cs:List D} (hf:EJ zs ds=some cs):Az P cfg x N dep (AK s (AG o.dst (.d (.agg cs)))) a w o:=by
 obtain⟨g1,g2⟩:=wy R pl hl hds;simp only[Cj,ab7] at hzd;obtain⟨zv,⟨i,hi,hz1⟩,hz2⟩:=hzd;have hzr:Rd (AE x) w zv (.agg zs):=jt hz2;have hagg:∃ c,zv= .agg c:=by cases hzr;exact⟨_,rfl⟩
 obtain⟨zc,rfl⟩:=hagg;obtain⟨cells',f1,f2⟩:=aqt (w:=w) (F:=AE x) (fun i=>pl.toArray[i]?) (ps.toList.map fun p=>(p.1,a.eval p.2)) ds zc zs cs (by simpa using g1) (fun i p d e1 e2=>by
  rw[acf] at e1;cases hp:ps.toList[i]? with
  |none=>rw[hp] at e1;cases e1
  | some p'=>
   rw[hp] at e1;cases e1;obtain⟨q1,q2⟩:=g2 i p' d hp e2;exact⟨by simpa using q1,q2⟩) (Cw.UI hzr) hf
 refine a6 R hd hk (v:= .agg cells') ?_ f2.agg;have hb:P.built t (ps.map fun(i,x)=>(i,a.eval x)).toList=some cells':=by
  unfold Program.built;have hpp:(ps.map fun(i,x)=>(i,a.eval x)).toList=ps.toList.map fun p=>(p.1,a.eval p.2):=by simp
  simp only[hi,ht,hz1,ox _ _ hpl,hpp];exact f1
 simp[execOp,ho,run_build w t _ cells' hb]
def Wb (x x':Cx) (w:World) (k:Nat) (v:Value):V→Prop
 | .own _ z es=>∃ b o cap,v= .slice (some (ad3 b o)) es.length cap∧es.length≤cap∧x.ow b≠some (.at (.slot k))∧x'.ow b=some (.at (.slot k))∧Arr (AE x') w b o cap z es
 | .d c=>Rd (AE x') w v c∧c.AP=true
 |_=>False
theorem Fr.Gq {x x':Cx} {w:World} {dep:Nat} (F:Fr dep x x' w w) {b o:Nat} {u:Value} (h:x.ow b=none) (hu:w.cell? (ad3 b o)=some u):x'.ow b=none∧w.cell? (ad3 b o)=some u:=by
 have hlt:=World.block_lt_of_cell? _ _ hu;exact⟨(F.same b hlt (.inl h)).2.trans h,hu⟩
theorem xv {k:Nat} {pl:List (Nat×Nat)}:∀ {ps:List (Nat×Operand)} {l:List (Nat×Nat×AB)} (_:kr pl ps=some l) {i:Nat} {s:Get} {x:Cx} (_:Rel cfg x N s a w) {r:List V×List (Loc×V)} (_:CJ cfg k s i l=some r),
  ∃ x',Rel cfg x' N (AK s r.2) a w∧Fr dep x x' w w∧(∀ b,x.ow b=some (.at (.slot k))→x'.ow b=some (.at (.slot k)))∧ps.length=r.1.length∧
    (∀ (m:Nat) p y,ps[m]? =some p→r.1[m]? =some y→pl[p.1]? =some (i+m,1)∧Wb x x' w k (a.eval p.2) y)∧
    ∀ (m m':Nat) p p' y y' (q q':Addr) (L C L' C':Nat),m≠m'→ps[m]? =some p→ps[m']? =some p'→r.1[m]? =some y→r.1[m']? =some y'→y.A5=true→y'.A5=true→
      a.eval p.2= .slice (some q) L C→a.eval p'.2= .slice (some q') L' C'→q.block≠q'.block
 | [],l,h,i,s,x,R,r,h'=>by
  cases h;cases h';exact⟨x,R,.refl _ _ _,fun _ h=>h,rfl,fun m p y h=>by simp at h,fun m m' p p' y y' q q' L C L' C' _ h=>by simp at h⟩
 | (f,X)::ps,l,h,i,s,x,R,r,h'=>by
  unfold kr at h;split at h
  · rename_i o n ix l' h0 h1 h2
    cases h;unfold CJ at h';split at h'
    · rename_i hon
      obtain⟨rfl,rfl⟩:=hon;split at h'
      · rename_i j nw z es hv
        split at h'
        · cases h'
        · rename_i hjk
          simp only[abz] at h';obtain⟨⟨ys,u⟩,h3,rfl⟩:=h';obtain⟨l0,hr,hl0⟩:=bb R h1 hv;obtain⟨hl1,rfl⟩:=hl0 j rfl;have he:s (.slot j)=some (.own nw z es):=hv;obtain⟨b,o',cap,q1,q2,q3,q4⟩:=R.Bi he;have R0:=R.forget (l0:= .slot j) (by rw[he];rfl)
          have R1:=R0.relabel q2 (fun v hv'=>by simp only[a8,if_pos] at hv';cases hv';rfl) (fun k' e=>by cases e;exact R.CB _ _ he) (.slot k)
          have hjk':x.ow b≠some (.at (.slot k)):=fun e=>by rw[q2] at e;cases e;exact hjk rfl
          have F1:Fr dep x (x.AU b (some (.at (.slot k)))) w w:=Fr.AU q2 _;obtain⟨x',R2,F2,g1,g2,g3,g4⟩:=xv h2 R1 h3;have hkeep:∀ b',x.ow b'=some (.at (.slot k))→(x.AU b (some (.at (.slot k)))).ow b'=some (.at (.slot k)):=fun b' hb=>by
            rw[Cx.AO _ _ (fun e=>hjk' (by rw[← e];exact hb))];exact hb
          have hF:=F1.trans F2;have BD:a.eval (.tmp j)= .slice (some (ad3 b o')) es.length cap:=by simpa[Aa,Act.eval] using q1
          have tl:∀ (m:Nat) p y,ps[m]? =some p→ys[m]? =some y→pl[p.1]? =some (o+1+m,1)∧Wb x x' w k (a.eval p.2) y:=fun m p y e1 e2=>by
            obtain⟨t1,t2⟩:=g3 m p y e1 e2;refine⟨t1,?_⟩;cases y with
            | own nw' z' B8=>
             obtain⟨b2,o2,c2,w1,w2,w3,w4,w5⟩:=t2;exact⟨b2,o2,c2,w1,w2,fun e=>w3 (hkeep _ e),w4,w5⟩
            |d c=>exact t2
            |_=>exact t2
          refine⟨x',?_,hF,fun b' hb=>g1 _ (hkeep _ hb),by simp[g2],fun m p y e1 e2=> ?_,?_⟩
          · exact R2
          · cases m with
            | zero=>
             simp only[List.getElem?_cons_zero,Option.some.injEq] at e1 e2;subst e1;subst e2;exact⟨h0,b,o',cap,BD,q3,hjk',g1 _ abw,q4.mono (fun b o u hb hu=>hF.Gq hb hu) (fun _ _ h=>h) (fun _ _ _ h=>h)⟩
            | succ m=>
             have:=tl m p y (by simpa using e1) (by simpa using e2)
             rw[show o+(m+1)=o+1+m by omega]
             exact this
          · have hd0:∀ (m:Nat) p' y' (q':Addr) (L' C':Nat),ps[m]? =some p'→ys[m]? =some y'→y'.A5=true→a.eval p'.2= .slice (some q') L' C'→b≠q'.block:=fun m p' y' q' L' C' e1 e2 e3 e4 e5=>by
             obtain⟨_,t2⟩:=g3 m p' y' e1 e2;cases y' with
             | own nw' z' B8=>
              obtain⟨b2,o2,c2,w1,w2,w3,w4,w5⟩:=t2;rw[w1] at e4;cases e4;subst e5;exact w3 abw
             |rcd=>exact t2
             |_=>simp[V.A5] at e3
            intro m m' p p' y y' q q' L C L' C' Ai e1 e2 e3 e4 e5 e6 e7 e8;cases m with
            | zero=>
             cases m' with
             |zero=>exact absurd rfl Ai
             | succ m'=>
              simp only[List.getElem?_cons_zero,Option.some.injEq] at e1;subst e1;rw[BD] at e7;cases e7;exact hd0 m' p' y' q' L' C' (by simpa using e2) (by simpa using e4) e6 e8
            | succ m=>
             cases m' with
             | zero=>
              simp only[List.getElem?_cons_zero,Option.some.injEq] at e2;subst e2;rw[BD] at e8;cases e8;exact fun e=>hd0 m p y q L C (by simpa using e1) (by simpa using e3) e5 e7 e.symm
             |succ m'=>exact g4 m m' p p' y y' q q' L C L' C' abu (by simpa using e1) (by simpa using e2) (by simpa using e3) (by simpa using e4) e5 e6 e7 e8
      · rename_i y0 _ hv
        split at h'
        · rename_i Ag
          simp only[abz] at h';obtain⟨⟨ys,u⟩,h3,rfl⟩:=h';have hr:=B9 R h1 hv;obtain⟨x',R2,F2,g1,g2,g3,g4⟩:=xv h2 R h3;refine⟨x',R2,F2,g1,by simp[g2],fun m p y e1 e2=> ?_,fun m m' p p' y y' q q' L C L' C' Ai e1 e2 e3 e4 e5 e6 e7 e8=> ?_⟩
          · cases m with
            | zero=>
             simp only[List.getElem?_cons_zero,Option.some.injEq] at e1 e2;subst e1;subst e2;exact⟨h0,hr.can.mono (fun b o u hb hu=>F2.Gq hb hu),D.E5 Ag⟩
            | succ m=>
             have:=g3 m p y (by simpa using e1) (by simpa using e2)
             rw[show o+(m+1)=o+1+m by omega]
             exact this
          · cases m with
            |zero=>simp only[List.getElem?_cons_zero,Option.some.injEq] at e3;subst e3;cases e5
            | succ m=>
             cases m' with
             |zero=>simp only[List.getElem?_cons_zero,Option.some.injEq] at e4;subst e4;cases e6
             |succ m'=>exact g4 m m' p p' y y' q q' L C L' C' abu (by simpa using e1) (by simpa using e2) (by simpa using e3) (by simpa using e4) e5 e6 e7 e8
        · cases h'
      · cases h'
    · cases h'
  · cases h
theorem cB (R:Rel cfg x N s a w) {o:Oper} {t:TypeId} {ps:Array (Nat×Operand)} (ho:o.op= .build t ps) {k:Nat} (hd:o.dst=some k) (hk:k<N) {fs:Array Field} (ht:P.underlying t=some (.struct fs))
   {zs:List D} (hzd:Cj P t=some (.agg zs)) {pl:List (Nat×Nat)} (hpl:oy P fs.toList=some pl) {l:List (Nat×Nat×AB)} (hl:kr pl ps.toList=some l)
   {r:List V×List (Loc×V)} (hr:CJ cfg k s 0 l=some r) (hlen:r.1.length=zs.length):Az P cfg x N dep (AK s (r.2++[(.slot k,.rcd r.1)])) a w o:=by
 obtain⟨x',R',F,_,g2,g3,g4⟩:=xv (dep:=dep) hl R hr;simp only[Cj,ab7] at hzd;obtain⟨zv,⟨i,hi,hz1⟩,hz2⟩:=hzd;have hzr:Rd (AE x) w zv (.agg zs):=jt hz2;have hagg:∃ c,zv= .agg c∧c.size=zs.length:=by
   cases hzr with
   |agg vs cs hl hc h=>exact⟨_,rfl,by simpa using hl⟩
 obtain⟨zc,rfl,hzc⟩:=hagg;have hone:∀ (m:Nat) p,(ps.toList.map fun p=>(p.1,a.eval p.2))[m]? =some p→pl.toArray[p.1]? =some (0+m,1)∧p.2.cells= #[p.2]:=fun m p e=>by
   rw[acf] at e;cases hp:ps.toList[m]? with
   |none=>rw[hp] at e;cases e
   | some p'=>
     rw[hp] at e;cases e;have hm:m<r.1.length:=by rw[← g2];exact(ab1.1 hp).1
     obtain⟨q1,q2⟩:=g3 m p' _ hp (ab0 hm);refine⟨by simpa using q1,?_⟩
     cases hy:r.1[m] with
     | own nw z es=>
      rw[hy] at q2;obtain⟨b,o2,c2,w1,_⟩:=q2;simp only[w1];rfl
     | d c=>
      rw[hy] at q2;have:=q2.1.DY q2.2;simp only;cases hv:a.eval p'.2<;>first|rfl| (rw[hv] at this;simp[Value.oneCell'] at this)
     |_=>rw[hy] at q2;exact q2.elim
 obtain⟨cells',f1,f2,_,f4⟩:=aqu (fun i=>pl.toArray[i]?) (ps.toList.map fun p=>(p.1,a.eval p.2)) 0 zc hone (by
   rw[aby,g2,hlen,hzc];omega)
 have hcells:cells'=(ps.toList.map fun p=>a.eval p.2).toArray:=by
   apply Array.ext';apply List.ext_getElem?;intro m;by_cases hm:m<ps.toList.length
   · have:=f4 m _ (by rw[acf,ab0 hm];rfl)
     rw[Nat.zero_add] at this;rw[Array.getElem?_toList,this,acf,ab0 hm];rfl
   · rw[adz (by simp[f2,hzc,← hlen,← g2];simpa using hm),adz (by simpa using hm)]
 have hb:P.built t (ps.map fun(i,x)=>(i,a.eval x)).toList=some cells':=by
   unfold Program.built;have hpp:(ps.map fun(i,x)=>(i,a.eval x)).toList=ps.toList.map fun p=>(p.1,a.eval p.2):=by simp
   simp only[hi,ht,hz1,ox _ _ hpl,hpp];exact f1
 have AW:(execOp a.eval o).run P w= .ok (.value (.agg cells')) w:=by simp[execOp,ho,run_build w t _ cells' hb]
 refine⟨_,w,x',.inl AW,?_,F⟩;rw[bo,hd];refine R'.putAt hk abw ?_;rw[hcells];refine .rcd _ _ _ (by simpa using g2) (fun m v y e1 e2=> ?_) (fun m m' p q L C L' C' n n' z z' es B8 Ai e1 e2 e3 e4=> ?_)
 · rw[acf] at e1
   cases hp:ps.toList[m]? with
   |none=>rw[hp] at e1;cases e1
   | some p'=>
     rw[hp] at e1;cases e1;obtain⟨_,q2⟩:=g3 m p' y hp e2;cases y with
     | own nw z es=>
      obtain⟨b,o2,c2,w1,w2,_,w4,w5⟩:=q2;simp only[w1];exact .own _ b o2 _ c2 z nw es w4 rfl w2 w5
     |d c=>exact .d _ _ _ q2.1
     |_=>exact q2.elim
 · rw[acf] at e3 e4
   cases hp:ps.toList[m]? with
   |none=>rw[hp] at e3;cases e3
   | some p1=>
     cases hp':ps.toList[m']? with
     |none=>rw[hp'] at e4;cases e4
     | some p2=>
      rw[hp] at e3;rw[hp'] at e4;exact g4 m m' p1 p2 _ _ p q L C L' C' Ai hp hp' e1 e2 rfl rfl (by simpa using e3) (by simpa using e4)
theorem bau (R:Rel cfg x N s a w) {o:Oper} {t e:TypeId} {n:Nat} {ps:Array (Nat×Operand)} (ho:o.op= .build t ps) {k:Nat} (hd:o.dst=some k) (hk:k<N) (ht:P.underlying t=some (.array n e))
  {zs:List D} (hzd:Cj P t=some (.agg zs)) {z:Nat} (hz:BO P e=some z) {l:List (Nat×AB)} (hl:ej ps.toList=some l)
  {ds:List (Nat×Nat×D)} (hds:de cfg s (l.map fun p=>(p.1*z,z,p.2))=some ds) {cs:List D} (hf:EJ zs ds=some cs):Az P cfg x N dep (AK s (AG o.dst (.d (.agg cs)))) a w o:=by
 have key:∀ {ps:List (Nat×Operand)} {l:List (Nat×AB)},ej ps=some l→∀ {ds:List (Nat×Nat×D)},de cfg s (l.map fun p=>(p.1*z,z,p.2))=some ds→
   ps.length=ds.length∧∀ (i:Nat) p d,ps[i]? =some p→ds[i]? =some d→(p.1*z,z)=(d.1,d.2.1)∧Rd (AE x) w (a.eval p.2) d.2.2:=by
  intro ps
  induction ps with
  |nil=>intro l h ds h';cases h;cases h';simp
  | cons q ps ih=>
   obtain⟨i,X⟩:=q;intro l h ds h';unfold ej at h;split at h
   · rename_i ix l' h1 h2
     cases h;simp only[List.map_cons] at h';unfold de at h';split at h'
     · rename_i y ys h3 h4
       cases h';obtain⟨g1,g2⟩:=ih h2 h4;refine⟨by simp[g1],fun j p d e1 e2=> ?_⟩
       cases j with
       |zero=>simp at e1 e2;subst e1;subst e2;exact⟨rfl,tj R h1 h3⟩
       |succ j=>simp at e1 e2;exact g2 j p d e1 e2
     · cases h'
   · cases h
 obtain⟨g1,g2⟩:=key hl hds;simp only[Cj,ab7] at hzd;obtain⟨zv,⟨i,hi,hz1⟩,hz2⟩:=hzd;have hzr:Rd (AE x) w zv (.agg zs):=jt hz2;have hagg:∃ c,zv= .agg c:=by cases hzr;exact⟨_,rfl⟩
 obtain⟨zc,rfl⟩:=hagg;obtain⟨cells',f1,f2⟩:=aqt (w:=w) (F:=AE x) (fun i=>some (i*z,z)) (ps.toList.map fun p=>(p.1,a.eval p.2)) ds zc zs cs (by simpa using g1) (fun i p d e1 e2=>by
  rw[acf] at e1;cases hp:ps.toList[i]? with
  |none=>rw[hp] at e1;cases e1
  | some p'=>
   rw[hp] at e1;cases e1;obtain⟨q1,q2⟩:=g2 i p' d hp e2;exact⟨by rw[← q1],q2⟩) (Cw.UI hzr) hf
 refine a6 R hd hk (v:= .agg cells') ?_ f2.agg;simp only[BO,abz] at hz;obtain⟨ie,hie,hz⟩:=hz;have hb:P.built t (ps.map fun(i,x)=>(i,a.eval x)).toList=some cells':=by
  unfold Program.built;have hpp:(ps.map fun(i,x)=>(i,a.eval x)).toList=ps.toList.map fun p=>(p.1,a.eval p.2):=by simp
  simp only[hi,ht,hz1,hie,hz,hpp];exact f1
 simp[execOp,ho,run_build w t _ cells' hb]
end
end Go.Ev
namespace Go.Ev
open Go
section
variable {P:Program} {w:World}
structure Src (P:Program) (w:World) (size:Nat) (x:Value) (n:Nat) (news:List Value):Prop where
 len:∀ w',(Builtin.lenOf x).run P w'= .ok n w'
 cells:∀ w',w'.heap=w.heap→(Builtin.firstCells size n x).run P w'= .ok news.toArray w'
 num:news.length=n*size
 one:∀ v∈news,v.oneCell'=true
theorem qh {t u ty e:TypeId} {i:TypeInfo} {d:TypeDesc} (ht:P.underlying t=some (.slice e)) (hu:P.underlying u=some d) (hd:∀ k,d≠ .int k) (hi:P.info? e=some i)
  {b o sLen sCap n:Nat} {y:Value} {news:List Value} (S:Src P w i.size y n news) (hr:sLen+n≤sCap)
  (Ag:∀ j,j<news.length→(w.cell? ⟨b,o+sLen*i.size+j,none⟩).isSome=true) (hfro:∀ j,j<news.length→w.frozen? ⟨b,o+sLen*i.size+j,none⟩=false):
  (Builtin.append_ #[t,u] ty #[.slice (some (ad3 b o)) sLen sCap,y]).run P w= .ok (.slice (some (ad3 b o)) (sLen+n) sCap) (w.setCells b (o+sLen*i.size) news):=by
 have hz:(match d with| .int _=>true|_=>false)=false:=by cases d<;>first|rfl|exact absurd rfl (hd _)
 have Bz:=run_storeCells_cells (P:=P) b (o+sLen*i.size) news 0 w (by simpa using Ag) (by simpa using hfro) S.one
 have hc:=S.cells w rfl;have hl:=S.len w;simp only[Nat.add_zero] at Bz;simp only[Builtin.append_,List.getElem?_toArray,List.getElem?_cons_zero,List.getElem?_cons_succ,Sem.run_bind,run_underlying ht,run_underlying hu,Result.andThen_ok,sizeOf,typeInfo,run_program,hi,Sem.run_pure,hz,
  acb,if_false,hl,hr,if_true,adb,hc,ct]
 rw[Bz];rfl
theorem jo {t u ty e:TypeId} {i:TypeInfo} {z:Value} {d:TypeDesc} (ht:P.underlying t=some (.slice e)) (hu:P.underlying u=some d) (hd:∀ k,d≠ .int k) (hi:P.info? e=some i) (hz:i.zero=some z)
  {base:Option Addr} {sLen sCap n:Nat} {y:Value} {olds news:List Value} (S:Src P w i.size y n news) (hr:sCap<sLen+n) (hb0:i.bytes≠0) (h47:(sLen+n)*i.bytes≤140737488355328)
  (hold:∀ w',w'.heap=w.heap→(Builtin.firstCells i.size sLen (.slice base sLen sCap)).run P w'= .ok olds.toArray w'):
  (Builtin.append_ #[t,u] ty #[.slice base sLen sCap,y]).run P w=
   .ok (.slice (some ⟨w.heap.size,0,none⟩) (sLen+n) (grownCap w (sLen+n) sCap e)) (w.drew.alloc (.cells (olds.toArray++news.toArray++Builtin.zeroCells z.cells (grownCap w (sLen+n) sCap e-(sLen+n))) e)):=by
 have hzz:(match d with| .int _=>true|_=>false)=false:=by cases d<;>first|rfl|exact absurd rfl (hd _)
 have hn:¬ (sLen+n≤sCap):=abu;have h48:=growslice_fits hr h47;have h48':¬ (Builtin.nextslicecap (sLen+n) sCap*i.bytes>2 ^ 48):=by
  have:(2:Nat) ^ 48=281474976710656:=abx;omega
 have hl:=S.len w;have hc:=S.cells w.drew rfl;have ho:=hold w.drew rfl;simp only[Builtin.append_,List.getElem?_toArray,List.getElem?_cons_zero,List.getElem?_cons_succ,Sem.run_bind,run_underlying ht,run_underlying hu,Result.andThen_ok,sizeOf,typeInfo,run_program,hi,Sem.run_pure,hzz,
  acb,if_false,hl,hn,adb,if_true,false_or,hb0,and_false,h48',run_choose,Question.forced,run_askRoom,zeroValue,hz]
 rw[show({w with drawn:=w.drawn+1}:World)=w.drew from rfl]
 simp only[ho,Result.andThen_ok,hc];rfl
theorem lz (zs:Array Value) (n:Nat):(Builtin.zeroCells zs n).size=n*zs.size:=by simp[Builtin.zeroCells]
end
section
variable {P:Program} {cfg:Cfg} {x:Cx} {N dep:Nat} {s:Get} {a:Act} {w:World}
theorem jn {z:Nat}:∀ {es:List D},B5 z es=true→∀ e∈es,e.cells.length=z
 | [],_,e,he=>by simp at he
 | e'::r,h,e,he=>by
  simp only[B5,aca,acg] at h;rcases ach.1 he with rfl|he
  · exact h.1
  · exact jn h.2 e he
theorem pc {F:Nat→Prop} (z:Nat) (f:Nat→Option Value):∀ (es:List D) (i0:Nat),(∀ e∈es,e.cells.length=z)→
  (∀ (i:Nat) e,es[i]? =some e→∀ (j:Nat) c,e.cells[j]? =some c→∃ v,f ((i0+i)*z+j)=some v∧Rd F w v c∧v.oneCell'=true)→
  ∃ news:List Value,news.length=es.length*z∧(∀ (m:Nat) v,news[m]? =some v→f (i0*z+m)=some v∧v.oneCell'=true)∧
    ∀ (i:Nat) e,es[i]? =some e→∀ (j:Nat) c,e.cells[j]? =some c→∃ v,news[i*z+j]? =some v∧Rd F w v c∧v.oneCell'=true
 | [],i0,_,_=>⟨[],by simp,by simp,by simp⟩
 | e::es,i0,hw,h=>by
  obtain⟨n1,a1,a2,a3⟩:=pc z f es (i0+1) (fun e he=>hw e (by simp[he])) (fun i e he j c hj=>by
    obtain⟨v,q1,q2⟩:=h (i+1) e (by simpa using he) j c hj
    exact⟨v,by rw[show i0+1+i=i0+(i+1) by omega];exact q1,q2⟩)
  have he:e.cells.length=z:=hw e abw;have h0:∀ (j:Nat) c,e.cells[j]? =some c→∃ v,f (i0*z+j)=some v∧Rd F w v c∧v.oneCell'=true:=fun j c hj=>by
    obtain⟨v,q1,q2⟩:=h 0 e rfl j c hj;exact⟨v,by simpa using q1,q2⟩
  have hl:∀ j,∃ v,∀ c,e.cells[j]? =some c→f (i0*z+j)=some v∧Rd F w v c∧v.oneCell'=true:=fun j=>by
    cases hc:e.cells[j]? with
    |none=>exact⟨undef,fun c h=>by cases h⟩
    |some c=>obtain⟨v,q⟩:=h0 j c hc;exact⟨v,fun c' h=>by cases h;exact q⟩
  refine⟨(List.range z).map (fun j=>(hl j).choose)++n1,by simp[a1,ac6];omega,fun m v hm=> ?_,fun i e' he' j c hj=> ?_⟩
  · rw[List.getElem?_append] at hm
    split at hm
    · rename_i hlt
      have hmz:m<z:=by simpa using hlt
      rw[acf,List.getElem?_range hmz] at hm;cases hm;have hc:e.cells[m]? =some (e.cells[m]'(by omega)):=ab0 _
      exact⟨((hl m).choose_spec _ hc).1,((hl m).choose_spec _ hc).2.2⟩
    · rename_i hlt
      have hmz:z≤m:=by simpa using hlt
      obtain⟨q1,q2⟩:=a2 _ v hm;refine⟨?_,q2⟩;rw[← q1]
      congr 1
      simp only[aby,List.length_range,ac6];omega
  · cases i with
    | zero=>
      simp at he';subst he';have hjz:j<z:=by rw[← he];exact(ab1.1 hj).1
      refine⟨(hl j).choose,?_,((hl j).choose_spec c hj).2⟩;rw[Nat.zero_mul,Nat.zero_add,ada (by simpa using hjz),acf,List.getElem?_range hjz]
      rfl
    | succ i=>
      obtain⟨v,q1,q2⟩:=a3 i e' (by simpa using he') j c hj
      refine⟨v,?_,q2⟩;rw[List.getElem?_append_right (by simp[ac6];omega),← q1]
      congr 1
      simp[ac6];omega
theorem zw (R:Rel cfg x N s a w) {X:Operand} {p:AB} (hX:Ah X=some p) {y:V} (hy:val cfg s p=some y) {ys:List D} (hc:cont s y=some ys) {z:Nat} (hz:B5 z ys=true):
   ∃ news,Src P w z (a.eval X) ys.length news∧(∀ (i:Nat) e,ys[i]? =some e→∀ (j:Nat) c,e.cells[j]? =some c→c.AP=true∧∃ v,news[i*z+j]? =some v∧Rd (AE x) w v c∧v.oneCell'=true)∧
     ∃ ad cap,a.eval X= .slice ad ys.length cap∧(ad=none→ys=[])∧∀ a0,ad=some a0→∀ (m:Nat) v,news[m]? =some v→w.cell? (a0.add m)=some v:=by
 obtain⟨l0,hr,_⟩:=bb R hX hy;generalize a.eval X=v at hr;have key:∀ b o cap,v= .slice (some (ad3 b o)) ys.length cap→(∀ (i:Nat) e,ys[i]? =some e→aas (AE x) w b (o+i*z) e)→
     ∃ news,Src P w z v ys.length news∧(∀ (i:Nat) e,ys[i]? =some e→∀ (j:Nat) c,e.cells[j]? =some c→c.AP=true∧∃ v,news[i*z+j]? =some v∧Rd (AE x) w v c∧v.oneCell'=true)∧
     ∃ ad cap,v= .slice ad ys.length cap∧(ad=none→ys=[])∧∀ a0,ad=some a0→∀ (m:Nat) v,news[m]? =some v→w.cell? (a0.add m)=some v:=by
   intro b o cap e Ag;subst e;obtain⟨news,f1,f2,f3⟩:=pc (w:=w) (F:=AE x) z (fun m=>w.cell? (ad3 b (o+m))) ys 0 (jn hz) (fun i e he j c hj=>by
     obtain⟨q1,q2⟩:=Ag i e he;obtain⟨v,g1,g2⟩:=q2 j c hj;exact⟨v,by rw[← g1];congr 2;simp;omega,g2,g2.DY (q1 c (List.mem_of_getElem? hj))⟩)
   refine⟨news,⟨fun w'=>rfl,fun w' hw=> ?_,f1,fun v hv=> ?_⟩,fun i e he j c hj=>⟨(Ag i e he).1 c (List.mem_of_getElem? hj),f3 i e he j c hj⟩,_,cap,rfl,by simp,fun a0 ha m v hm=>by
      cases ha;rw[ct];have:=(f2 m v hm).1;simpa using this⟩
   · refine run_firstCells_some (P:=P) w' z ys.length (ad3 b o) ys.length cap news f1 (fun m v hm=> ?_)
     rw[ct];have:=(f2 m v hm).1;simp only[Nat.zero_mul,Nat.zero_add] at this;rw[← this];simp[World.cell?,hw]
   · obtain⟨m,hm⟩:=acx hv
     exact(f2 m v hm).2
 have hemp:∀ ad cap,v= .slice ad 0 cap→ys=[]→
     ∃ news,Src P w z v ys.length news∧(∀ (i:Nat) e,ys[i]? =some e→∀ (j:Nat) c,e.cells[j]? =some c→c.AP=true∧∃ v,news[i*z+j]? =some v∧Rd (AE x) w v c∧v.oneCell'=true)∧
     ∃ ad cap,v= .slice ad ys.length cap∧(ad=none→ys=[])∧∀ a0,ad=some a0→∀ (m:Nat) v,news[m]? =some v→w.cell? (a0.add m)=some v:=by
   rintro ad cap rfl rfl
   refine⟨[],⟨fun w'=>rfl,fun w' _=> ?_,by simp,by simp⟩,by simp,ad,cap,rfl,by simp,by simp⟩
   cases ad with
   |none=>rfl
   |some q=>exact run_firstCells_some (P:=P) w' z 0 q 0 cap [] abw abw
 unfold cont at hc;split at hc
 · cases hc
   obtain⟨ad,this⟩:=hr.An.Dm;exact hemp ad 0 this rfl
 · cases hc
   rcases hr.An.Gj (z:=z) (fun e he=>jn hz e (by cases ys<;>simp_all)) with⟨ad,cap,e,e0⟩|⟨b,o,cap,e,_,_,hp⟩
   · exact hemp ad cap e e0
   exact key b o cap e (fun i e he=>(hp i e he).cells)
 · rename_i nw z' B8
   cases hc;obtain⟨l1,b,o,cap,_,e,_,_,A⟩:=hr.EW;refine key b o cap e (fun i e he=> ?_)
   have:z'=z:=by rw[← A.wid e (List.mem_of_getElem? he)];exact jn hz e (List.mem_of_getElem? he)
   subst this;exact A.cells he
 · rename_i l off n
   split at hc
   · rename_i nw z' B8 hs
     cases hc;obtain⟨b,o',cap',q1,q2,q3,q4,q5⟩:=R.EN hr hs;have hlen:((B8.drop off).take n).length=n:=by simp;omega
     refine key b o' cap' (by rw[q1,hlen]) (fun i e he=> ?_)
     have:z'=z:=by rw[← q5.wid e (List.mem_of_getElem? he)];exact jn hz e (List.mem_of_getElem? he)
     subst this;exact q5.cells he
   · cases hc
 · cases hc
theorem bp {b o:Nat} {news:List Value} {b' o':Nat} {u:Value} (h:w.cell? (ad3 b' o')=some u) (hout:b'=b→o'<o∨o+news.length≤o'):
  (w.setCells b o news).cell? (ad3 b' o')=some u:=by
 rw[World.cell?_setCells_out b news o w _ (fun h1 _=>hout h1)];exact h
theorem Arr.push {b o cap z:Nat} {es ys:List D} (A:Arr (AE x) w b o cap z es) (hb:x.ow b≠none) (Ad:es.length+ys.length≤cap) {news:List Value} (hn:news.length=ys.length*z) (hz:∀ e∈ys,e.cells.length=z)
   (hs:∀ (i:Nat) e,ys[i]? =some e→∀ (j:Nat) c,e.cells[j]? =some c→c.AP=true∧∃ v,news[i*z+j]? =some v∧Rd (AE x) w v c∧v.oneCell'=true):
   Arr (AE x) (w.setCells b (o+es.length*z) news) b o cap z (es++ys):=by
 have hmono:∀ b' o' u,AE x b'→w.cell? (ad3 b' o')=some u→AE x b'∧(w.setCells b (o+es.length*z) news).cell? (ad3 b' o')=some u:=fun b' o' u h1 h2=>
   ⟨h1,bp h2 (fun e=>absurd h1 (by rw[e];exact hb))⟩
 have hle:(es.length+ys.length)*z≤cap*z:=ac0 z Ad;rw[ac6] at hle;refine⟨A.pos,fun j hj=> ?_,fun e he=> ?_,fun e he=> ?_,fun i e he j c hj=> ?_⟩
 · obtain⟨⟨u,hu⟩,hf⟩:=A.room j hj
   exact⟨ew b news _ w _ hu,by rw[World.frozen?_setCells];exact hf⟩
 · rcases acz.1 he with he|he
   · exact A.wid e he
   · exact hz e he
 · rcases acz.1 he with he|he
   · exact A.cel e he
   · obtain⟨i,hi⟩:=acx he
     intro c hc;obtain⟨j,hj⟩:=acx hc;exact(hs i e hi j c hj).1
 · rw[List.getElem?_append] at he
   split at he
   · rename_i hlt
     obtain⟨v,q1,q2⟩:=A.els i e he j c hj;have hjz:j<z:=by rw[← A.wid e (List.mem_of_getElem? he)];exact(ab1.1 hj).1
     have:=vw hlt hjz;exact⟨v,bp q1 (fun _=> .inl abu),q2.mono hmono⟩
   · rename_i hlt
     obtain⟨_,v,q1,q2,q3⟩:=hs _ e he j c hj;refine⟨v,?_,q2.mono hmono⟩;have hm:(i-es.length)*z+j<news.length:=(ab1.1 q1).1;have:=World.cell?_setCells_in b news (o+es.length*z) w (fun m hm'=>by
      obtain⟨⟨u,hu⟩,_⟩:=A.room (es.length*z+m) abu;rw[show o+es.length*z+m=o+(es.length*z+m) by omega]
      rw[hu];rfl) _ hm
     have hi:i=es.length+(i-es.length):=abu;have e1:o+i*z+j=o+es.length*z+((i-es.length)*z+j):=by
      conv=>lhs;rw[hi,ac6]
      omega
     rw[show ad3 b (o+i*z+j)=⟨b,o+es.length*z+((i-es.length)*z+j),none⟩ by rw[e1],this,← q1,ab0 hm]
theorem VP {b o cap z:Nat} {es ys:List D} (A:Arr (AE x) w b o cap z es) {olds news:List Value} (ho:olds.length=es.length*z) (hol:∀ (m:Nat) v,olds[m]? =some v→w.cell? (ad3 b (o+m))=some v)
   (hn:news.length=ys.length*z) (hz:∀ e∈ys,e.cells.length=z)
   (hs:∀ (i:Nat) e,ys[i]? =some e→∀ (j:Nat) c,e.cells[j]? =some c→c.AP=true∧∃ v,news[i*z+j]? =some v∧Rd (AE x) w v c∧v.oneCell'=true):
   DA (AE x) w (olds++news).toArray z (es++ys):=by
 refine⟨by simp[ho,hn,ac6],fun e he=> ?_,fun e he=> ?_,fun i e he j c hj=> ?_⟩
 · rcases acz.1 he with he|he
   · exact A.wid e he
   · exact hz e he
 · rcases acz.1 he with he|he
   · exact A.cel e he
   · obtain⟨i,hi⟩:=acx he
     intro c hc;obtain⟨j,hj⟩:=acx hc;exact(hs i e hi j c hj).1
 · rw[List.getElem?_append] at he
   split at he
   · rename_i hlt
     obtain⟨v,q1,q2⟩:=A.els i e he j c hj;have hjz:j<z:=by rw[← A.wid e (List.mem_of_getElem? he)];exact(ab1.1 hj).1
     have hlt2:=vw hlt hjz;have hm:i*z+j<olds.length:=abu;have Ag:=hol _ _ (ab0 hm);rw[show o+(i*z+j)=o+i*z+j by omega,q1] at Ag
     refine⟨v,?_,q2,q2.DY (A.cel e (List.mem_of_getElem? he) c (List.mem_of_getElem? hj))⟩;simp only[List.getElem?_toArray];rw[ada hm,ab0 hm,← Option.some.inj Ag]
   · rename_i hlt
     obtain⟨_,v,q1,q2⟩:=hs _ e he j c hj;refine⟨v,?_,q2⟩;have hi:i=es.length+(i-es.length):=abu;have e1:i*z+j=olds.length+((i-es.length)*z+j):=by
      conv=>lhs;rw[hi,ac6]
      omega
     simp only[List.getElem?_toArray];rw[e1,List.getElem?_append_right abu,← q1]
     congr 1
     omega
end
end Go.Ev
namespace Go.Ev
open Go
section
variable {P:Program} {cfg:Cfg} {x:Cx} {N dep:Nat} {s:Get} {a:Act} {w:World}
theorem Rel.take (R:Rel cfg x N s a w) {l0:Loc} {nw:Bool} {z:Nat} {es:List D} (h0:s l0=some (.own nw z es)) {b:Nat} (how:x.ow b=some (.at l0)):
   Rel cfg (x.AU b (some .res)) N (AK s [(l0,.AM)]) a w:=by
 have hs':∀ l',AK s [(l0,.AM)] l'=if l'=l0 then some .AM else s l':=fun l'=>rfl
 have hx:∀ b',x.ow b'=none→(x.AU b (some .res)).ow b'=none:=fun b' h=>by
   rw[Cx.AO];· exact h
   intro e;rw[e,how] at h;cases h
 have hB:∀ d j,(s (.cell ⟨d,j,0⟩)).isSome→(AK s [(l0,.AM)] (.cell ⟨d,j,0⟩)).isSome∧(x.AU b (some .res)).ad d j=x.ad d j:=by
   intro d j h;rw[hs'];split<;>simp[h]
 have CQ:∀ l',Aa (x.AU b (some .res)) a w l'=Aa x a w l':=fun l'=>by cases l'<;>rfl
 refine R.step [l0] R.size rfl rfl (fun b' hb'=> ?_) (fun l' A6 v' h=> ?_) (fun l' A6 v' h=> ?_) (fun j hj=> ?_)
   (fun b o u h1 h2=>⟨hx b h1,h2⟩) (fun b o u h1 h2=>⟨⟨u,h1⟩,h2⟩) (fun l' A6 z es h=> ?_) hB (fun l1 hl1 b1 h1=>⟨?_,fun _ _ h=>h⟩) (fun c v' h=> ?_) (R.Ct (fun _=> .inr ⟨_,how⟩)) (fun b' h _=>⟨Cx.AO _ _ (fun e=>by subst e;rw[how] at h;rcases h with h|h<;>cases h),rfl⟩)
 · by_cases e:b'=b
   · subst e;exact R.bound _ (by rw[how];simp)
   · rw[Cx.AO _ _ e] at hb';exact R.bound _ hb'
 · have Ai:l'≠l0:=by simpa using A6
   rw[hs',if_neg Ai] at h;exact⟨h,fun u hu=>by rw[CQ];exact hu⟩
 · have he:l'=l0:=by simpa using A6
   subst he;rw[hs',if_pos rfl] at h;cases h;obtain⟨u,hu,_⟩:=R.Bl l' _ h0;exact⟨u,by rw[CQ];exact hu,.AM _ _⟩
 · have:l0= .slot j:=(acv.1 hj).symm
   exact R.CB j _ (this ▸ h0)
 · have he:l'=l0:=by simpa using A6
   subst he;rw[hs',if_pos rfl] at h;cases h
 · have Ai:l1≠l0:=by simpa using hl1
   rw[Cx.AO];· exact h1
   intro e;rw[e,how] at h1;cases h1;exact Ai rfl
 · have key:∀ v0,s (.cell c)=some v0→(x.AU b (some .res)).ow (x.ad c.d c.k)=some (.box c.d c.k)∧
      (AK s [(l0,.AM)] (.cell ⟨c.d,c.k,0⟩)).isSome∧w.frozen? (ad3 (x.ad c.d c.k) c.off)=false:=fun v0 hv0=>by
     obtain⟨h1,h2,h3⟩:=R.box c v0 hv0;refine⟨?_,(hB _ _ h2).1,h3⟩;rw[Cx.AO];· exact h1
     intro e;rw[e,how] at h1;cases h1
   rw[hs'] at h;split at h
   · rename_i e;exact key _ (e ▸ h0)
   · exact key _ h
theorem Rel.P0 (R:Rel cfg x N s a w) {b:Nat} (how:x.ow b=some .res) {w':World} (hw:BR b w w'):Rel cfg x N s a w':=by
 have hbn:∀ b',x.ow b'≠x.ow b→b'≠b:=fun b' h e=>h (e ▸ rfl)
 have CQ:∀ l' v,s l'=some v→Aa x a w' l'=Aa x a w l':=fun l' v h=>by
   cases l' with
   |slot k=>rfl
   | cell c=>
     obtain⟨h1,_,_⟩:=R.box c v h;exact hw.cell (hbn _ (by rw[h1,how];simp))
 refine R.step [] R.size rfl rfl (fun b' hb'=>hw.size ▸ R.bound b' hb') (fun l' _ v' h=>⟨h,fun u hu=>by rw[CQ l' v' h];exact hu⟩) (fun l' A6=>by simp at A6) (fun j hj=>by simp at hj)
   (fun b1 o1 u h1 h2=>⟨h1,by rw[hw.cell (hbn b1 (by rw[h1,how];simp))];exact h2⟩) (fun b1 o1 u h1 h2=> ?_) (fun l' A6=>by simp at A6) (fun d k h=>⟨h,rfl⟩)
   (fun l1 _ b1 h1=>⟨h1,fun o1 u h=>by rw[hw.cell (hbn b1 (by rw[h1,how];simp))];exact h⟩) (fun c v' h=> ?_) (R.FW hw) (fun b1 h _=>⟨rfl,hw.other b1 (hbn b1 (by rcases h with h|h<;>rw[h,how]<;>simp))⟩)
 · by_cases e:b1=b
   · subst e
     exact⟨hw.Ac _ _ h1,by rw[hw.Gb _ ⟨u,h1⟩];exact h2⟩
   · exact⟨⟨u,by rw[hw.cell e];exact h1⟩,by rw[hw.frozen e];exact h2⟩
 · obtain⟨h1,h2,h3⟩:=R.box c v' h
   exact⟨h1,h2,by rw[hw.frozen (hbn _ (by rw[h1,how];simp))];exact h3⟩
theorem Fr.P0 {b:Nat} (how:x.ow b=some .res) {w':World} (hw:BR b w w'):Fr dep x x w w':=
 ⟨by rw[hw.size];exact ab5 _,fun b' _ h=>⟨hw.other b' (fun e=>by rw[e,how] at h;simp at h),rfl⟩,fun _ _ _=>rfl,hw.io,hw.room,rfl⟩
theorem Fr.Ea {b:Nat} (how:x.ow b=some .res) (o:Option Own):Fr dep x (x.AU b o) w w:=
 ⟨ab5 _,fun b' _ h=>⟨rfl,Cx.AO _ _ (fun e=>by rw[e,how] at h;simp at h)⟩,fun _ _ _=>rfl,.refl _,.refl _,rfl⟩
theorem Rel.name (R:Rel cfg x N s a w) {b:Nat} (how:x.ow b=some .res) {o:Own}:Rel cfg (x.AU b (some o)) N s a w:=by
 have hbn:∀ b',x.ow b'≠x.ow b→b'≠b:=fun b' h e=>h (e ▸ rfl)
 have CQ:∀ l',Aa (x.AU b (some o)) a w l'=Aa x a w l':=fun l'=>by cases l'<;>rfl
 refine R.step [] R.size rfl rfl (fun b' hb'=> ?_) (fun l' _ v' h=>⟨h,fun u hu=>by rw[CQ];exact hu⟩) (fun l' A6=>by simp at A6) (fun j hj=>by simp at hj)
   (fun b1 o1 u h1 h2=>⟨by rw[Cx.AO _ _ (hbn b1 (by rw[h1,how];simp))];exact h1,h2⟩) (fun b1 o1 u h1 h2=>⟨⟨u,h1⟩,h2⟩) (fun l' A6=>by simp at A6) (fun d k h=>⟨h,rfl⟩)
   (fun l1 _ b1 h1=>⟨by rw[Cx.AO _ _ (hbn b1 (by rw[h1,how];simp))];exact h1,fun _ _ h=>h⟩) (fun c v' h=> ?_) (R.Ct (fun _=> .inl how)) (fun b1 h _=>⟨Cx.AO _ _ (hbn b1 (by rcases h with h|h<;>rw[h,how]<;>simp)),rfl⟩)
 · by_cases e:b'=b
   · subst e;exact R.bound _ (by rw[how];simp)
   · rw[Cx.AO _ _ e] at hb';exact R.bound _ hb'
 · obtain⟨h1,h2,h3⟩:=R.box c v' h
   exact⟨by rw[Cx.D0,Cx.AO _ _ (hbn _ (by rw[h1,how];simp))];exact h1,h2,h3⟩
theorem Rel.place (R:Rel cfg x N s a w) {k:Nat} (hk:k<N) {b:Nat} (how:x.ow b=some .res) {o len cap z:Nat} {es:List D} (hA:Arr (AE x) w b o cap z es) (hl:es.length=len) (Ad:len≤cap):
  Rel cfg (x.AU b (some (.at (.slot k)))) N (AK s [(.slot k,.own true z es)]) (a.put (some k) (.slice (some (ad3 b o)) len cap)) w:=by
 refine(R.name how (o:= .at (.slot k))).putAt hk abw (.own _ b o len cap z true es abw hl Ad (hA.mono (fun b' o u h1 h2=>⟨?_,h2⟩) (fun _ _ h=>h) (fun _ _ _ h=>h)))
 show(x.AU b (some (.at (.slot k)))).ow b'=none;rw[Cx.AO];· exact h1
 intro e;rw[e,AE,how] at h1;cases h1
theorem Rel.BC {l0:Loc} {k:Nat} {y:V} (R:Rel cfg x N (AK (AK s [(l0,.AM)]) [(.slot k,y)]) a w):Rel cfg x N (AK s (AG (some k) y++[(l0,.AM)])) a w:=by
 by_cases e:l0= .slot k
 · subst e
   have R':=R.forget (l0:= .slot k) (by simp[bc])
   exact R'.congr (fun l=>by simp only[AG,bo,a8];split<;>simp_all)
 · exact R.congr (fun l=>by
    simp only[AG,bo,a8];by_cases h1:l=l0
    · subst h1;simp[e]
    · simp[h1])
variable {o:Oper} {c:Call}
theorem w7 (R:Rel cfg x N s a w) (ho:o.op= .call c) (hb:c.callee= .builtin .append) {k:Nat} (hd:o.dst=some k) (hk:k<N) {X Y:Operand} (hargs:c.args.toList=[X,Y]) {t u e:TypeId} (htys:c.argTypes.toList=[t,u])
   (ht:P.underlying t=some (.slice e)) {d:TypeDesc} (hu:P.underlying u=some d) (hdi:∀ k,d≠ .int k) {i:TypeInfo} (hi:P.info? e=some i) {zd:D} (hzd:Cj P e=some zd) (hzl:zd.cells.length=i.size) (Bz:zd.storable=true)
   (hby:i.bytes≤2048) (hb0:i.bytes≠0) {l0:Loc} {nw:Bool} {es0 es:List D} (h0:s l0=some (.own nw i.size es0)) {b of cap:Nat} (how:x.ow b=some (.at l0)) (hA:Arr (AE x) w b of cap i.size es) (Ad:es.length≤cap)
   (hX:a.eval X= .slice (some (ad3 b of)) es.length cap) {ys:List D} (hmost:es.length+ys.length≤bh) (hyz:∀ e∈ys,e.cells.length=i.size) {news:List Value} (S:Src P w i.size (a.eval Y) ys.length news)
   (hs:∀ (j:Nat) e,ys[j]? =some e→∀ (m:Nat) c,e.cells[m]? =some c→c.AP=true∧∃ v,news[j*i.size+m]? =some v∧Rd (AE x) w v c∧v.oneCell'=true):
   Az P cfg x N dep (AK s (AG (some k) (.own true i.size (es++ys))++[(l0,.AM)])) a w o:=by
 have hAr:c.args= #[X,Y]:=by apply Array.ext';simp[hargs]
 have hT:c.argTypes= #[t,u]:=by apply Array.ext';simp[htys]
 have hgo:∀ {v w'},(Builtin.append_ #[t,u] o.type #[a.eval X,a.eval Y]).run P w= .ok v w'→(execOp a.eval o).run P w= .ok (.value v) w':=fun {v w'} h=>by
   refine cx ho hb ?_;rw[hAr,hT];simp only[List.map_toArray,List.map_cons,List.map_nil,builtin,Sem.run_bind,h,Result.andThen_ok,Sem.run_pure]
 have RT:=R.take h0 how;have hres:(x.AU b (some .res)).ow b=some .res:=by simp
 have hmono:∀ b' o' u,AE x b'→w.cell? (ad3 b' o')=some u→AE (x.AU b (some .res)) b'∧w.cell? (ad3 b' o')=some u:=fun b' o' u h1 h2=>by
   refine⟨?_,h2⟩;show(x.AU b (some .res)).ow b'=none;rw[Cx.AO];· exact h1
   intro e;rw[e,AE,how] at h1;cases h1
 have hA':=hA.mono hmono (fun _ _ h=>h) (fun _ _ _ h=>h)
 have hs':∀ (j:Nat) e,ys[j]? =some e→∀ (m:Nat) c,e.cells[m]? =some c→c.AP=true∧∃ v,news[j*i.size+m]? =some v∧Rd (AE (x.AU b (some .res))) w v c∧v.oneCell'=true:=fun j e he m c hc=>by
   obtain⟨q1,v,q2,q3,q4⟩:=hs j e he m c hc;exact⟨q1,v,q2,q3.mono hmono,q4⟩
 by_cases hroom:es.length+ys.length≤cap
 · have hle:(es.length+ys.length)*i.size≤cap*i.size:=ac0 _ hroom
   rw [ac6] at hle;have hnl:=S.num;have AW:=qh (ty:=o.type) (o:=of) (b:=b) ht hu hdi hi S hroom (fun j hj=>by
      obtain⟨⟨u,hu⟩,_⟩:=hA.room (es.length*i.size+j) abu;rw[show of+es.length*i.size+j=of+(es.length*i.size+j) by omega,hu];rfl) (fun j hj=>by
      obtain⟨_,hf⟩:=hA.room (es.length*i.size+j) abu;rw[show of+es.length*i.size+j=of+(es.length*i.size+j) by omega];exact hf)
   rw[← hX] at AW;have hw:=bw w b (of+es.length*i.size) news;have R2:=RT.P0 hres hw;have hA2:=hA'.push abw hroom hnl hyz hs';have R3:=R2.place hk hres hA2 (len:=es.length+ys.length) abw hroom;refine⟨_,_,(x.AU b (some .res)).AU b (some (.at (.slot k))),.inl (hgo AW),?_,((Fr.AU how _).trans (Fr.P0 hres hw)).trans (Fr.Ea hres _)⟩;rw[hd];exact R3.BC
 · have hlt:cap<es.length+ys.length:=abu
   simp only[Cj,ab7] at hzd;obtain⟨zv,⟨i',hi',hz1⟩,hz2⟩:=hzd;rw[hi] at hi';cases hi';obtain⟨r1,_,_⟩:=(jt (F:=AE x) (w:=w) hz2).cells Bz;obtain⟨olds,f1,f2,f3⟩:=pc (w:=w) (F:=AE x) i.size (fun m=>w.cell? (ad3 b (of+m))) es 0 hA.wid (fun j e he m c hc=>by
    obtain⟨v,q1,q2⟩:=hA.els j e he m c hc;exact⟨v,by rw[← q1];congr 2;simp;omega,q2,q2.DY (hA.cel e (List.mem_of_getElem? he) c (List.mem_of_getElem? hc))⟩)
   have hol:∀ (m:Nat) v,olds[m]? =some v→w.cell? (ad3 b (of+m))=some v:=fun m v hm=>by
    have:=(f2 m v hm).1;simpa using this
   have h47:(es.length+ys.length)*i.bytes≤140737488355328:=by
    exact ac7 (Nat.mul_le_mul hmost hby) (by decide:bh*2048≤140737488355328)
   have AW:=jo (ty:=o.type) (base:=some (ad3 b of)) (olds:=olds) ht hu hdi hi hz1 S hlt hb0 h47 (fun w' hw'=>
    run_firstCells_some (P:=P) w' i.size es.length (ad3 b of) es.length cap olds f1 (fun m v hm=>by
      rw[ct];rw[← hol m v hm];simp[World.cell?,hw']))
   rw [← hX] at AW;have hE:=VP hA f1 hol S.num hyz hs;have hge:=grownCap_ge2 w (es.length+ys.length) cap e;have R2:=(RT.drew).alloc (.cells (olds.toArray++news.toArray++Builtin.zeroCells zv.cells (grownCap w (es.length+ys.length) cap e-(es.length+ys.length))) e) (some .res);have hAr2:Arr (AE ((x.AU b (some .res)).AU w.drew.heap.size (some .res))) (w.drew.alloc (.cells (olds.toArray++news.toArray++Builtin.zeroCells zv.cells (grownCap w (es.length+ys.length) cap e-(es.length+ys.length))) e)) w.heap.size 0
      (grownCap w (es.length+ys.length) cap e) i.size (es++ys):=by
    refine zr (hE.mono hmono) hA.pos (by simpa using hge) _ ?_ (fun m v hm=> ?_) e (some .res) abw w.drew rfl RT
    · simp only[Array.size_append,List.size_toArray,lz,f1,S.num,r1,hzl]
      rw[← ac6,← ac6]
      congr 1
      omega
    · have hm':m<(olds++news).length:=by
       have:=(act.1 hm).1;simpa using this
      rw[Array.getElem?_append_left (by simpa using hm')]
      simpa using hm
   have R3:=R2.place hk abw hAr2 (len:=es.length+ys.length) abw hge;refine⟨_,_,((x.AU b (some .res)).AU w.drew.heap.size (some .res)).AU w.heap.size (some (.at (.slot k))),.inl (hgo AW),?_,(((Fr.AU how _).trans Fr.drew).trans (Fr.alloc _ _)).trans (Fr.Ea abw _)⟩;rw[hd];exact R3.BC
where
 grownCap_ge2 (w:World) (need old:Nat) (e:TypeId):need≤grownCap w need old e:=by
  simp[grownCap,Question.cut]
theorem j8 (w:World) (need old:Nat) (e:TypeId):need≤grownCap w need old e:=by
 simp[grownCap,Question.cut]
theorem append_nil (R:Rel cfg x N s a w) (ho:o.op= .call c) (hb:c.callee= .builtin .append) {k:Nat} (hd:o.dst=some k) (hk:k<N) {X Y:Operand} (hargs:c.args.toList=[X,Y]) {t u e:TypeId} (htys:c.argTypes.toList=[t,u])
  (ht:P.underlying t=some (.slice e)) {d:TypeDesc} (hu:P.underlying u=some d) (hdi:∀ k,d≠ .int k) {i:TypeInfo} (hi:P.info? e=some i) {zd:D} (hzd:Cj P e=some zd) (hzl:zd.cells.length=i.size) (Bz:zd.storable=true)
  (hby:i.bytes≤2048) (hb0:i.bytes≠0) (hz0:i.size≠0) {ad:Option Addr} (hX:a.eval X= .slice ad 0 0) {ys:List D} (Ai:ys≠[]) (hmost:ys.length≤bh) (hyz:∀ e∈ys,e.cells.length=i.size) {news:List Value} (S:Src P w i.size (a.eval Y) ys.length news)
  (hs:∀ (j:Nat) e,ys[j]? =some e→∀ (m:Nat) c,e.cells[m]? =some c→c.AP=true∧∃ v,news[j*i.size+m]? =some v∧Rd (AE x) w v c∧v.oneCell'=true):
  Az P cfg x N dep (AK s (AG (some k) (.own true i.size ys))) a w o:=by
 have hAr:c.args= #[X,Y]:=by apply Array.ext';simp[hargs]
 have hT:c.argTypes= #[t,u]:=by apply Array.ext';simp[htys]
 have hgo:∀ {v w'},(Builtin.append_ #[t,u] o.type #[a.eval X,a.eval Y]).run P w= .ok v w'→(execOp a.eval o).run P w= .ok (.value v) w':=fun {v w'} h=>by
  refine cx ho hb ?_;rw[hAr,hT];simp only[List.map_toArray,List.map_cons,List.map_nil,builtin,Sem.run_bind,h,Result.andThen_ok,Sem.run_pure]
 simp only[Cj,ab7] at hzd;obtain⟨zv,⟨i',hi',hz1⟩,hz2⟩:=hzd;rw[hi] at hi';cases hi';obtain⟨r1,_,_⟩:=(jt (F:=AE x) (w:=w) hz2).cells Bz;have h47:(0+ys.length)*i.bytes≤140737488355328:=by
  rw[Nat.zero_add];exact ac7 (Nat.mul_le_mul hmost hby) (by decide:bh*2048≤140737488355328)
 have hpos:0<ys.length:=List.length_pos_iff.2 Ai;have AW:=jo (ty:=o.type) (base:=ad) (sLen:=0) (sCap:=0) (olds:=[]) ht hu hdi hi hz1 S abu hb0 h47 (fun w' _=>by
  cases ad with
  |none=>rfl
  |some q=>exact run_firstCells_some (P:=P) w' i.size 0 q 0 0 [] abw abw)
 rw [← hX] at AW;have hE:DA (AE x) w news.toArray i.size ys:=⟨by simp[S.num],hyz,fun e he c hc=>by
    obtain⟨j,hj⟩:=acx he;obtain⟨m,hm⟩:=acx hc;exact(hs j e hj m c hm).1,fun j e he m c hc=>by
    obtain⟨_,v,q1,q2,q3⟩:=hs j e he m c hc;exact⟨v,by simpa using q1,q2,q3⟩⟩
 have hge:=j8 w (0+ys.length) 0 e;have R2:=(R.drew).alloc (.cells (([]:List Value).toArray++news.toArray++Builtin.zeroCells zv.cells (grownCap w (0+ys.length) 0 e-(0+ys.length))) e) (some (.at (.slot k)));have hAr2:Arr (AE (x.AU w.heap.size (some (.at (.slot k))))) (w.drew.alloc (.cells (([]:List Value).toArray++news.toArray++Builtin.zeroCells zv.cells (grownCap w (0+ys.length) 0 e-(0+ys.length))) e)) w.heap.size 0
    (grownCap w (0+ys.length) 0 e) i.size ys:=by
  refine zr hE hz0 abu _ ?_ (fun m v hm=> ?_) e (some (.at (.slot k))) abw w.drew rfl R
  · simp only[Array.size_append,List.size_toArray,lz,S.num,r1,hzl,List.length_nil,Nat.zero_add]
    have hge':=j8 w ys.length 0 e;rw[← ac6]
    congr 1
    omega
  · have hm':m<news.length:=by
     have:=(act.1 hm).1;simpa using this
    rw[Array.getElem?_append_left (by simpa using hm')]
    simpa using hm
 refine⟨_,_,x.AU w.drew.heap.size (some (.at (.slot k))),.inl (hgo AW),?_,Fr.drew.trans (Fr.alloc _ _)⟩;rw[hd];exact R2.putAt hk abw (.own _ _ _ _ _ i.size true ys abw abu hge hAr2)
theorem t8 (R:Rel cfg x N s a w) (ho:o.op= .call c) (hb:c.callee= .builtin .append) {k:Nat} (hd:o.dst=some k) (hk:k<N) {X Y:Operand} (hargs:c.args.toList=[X,Y]) {t u e:TypeId} (htys:c.argTypes.toList=[t,u])
  (ht:P.underlying t=some (.slice e)) {d:TypeDesc} (hu:P.underlying u=some d) (hdi:∀ k,d≠ .int k) {i:TypeInfo} (hi:P.info? e=some i) {base:Option Addr} {sLen sCap:Nat} (Ad:sLen≤sCap)
  (hX:a.eval X= .slice base sLen sCap) (S:Src P w i.size (a.eval Y) 0 []) {y:V} (hy:y.A5=false) {l:Option Loc} (hr:RdV x s (Aa x a w) w l (a.eval X) y):
  Az P cfg x N dep (AK s (AG o.dst y)) a w o:=by
 have hAr:c.args= #[X,Y]:=by apply Array.ext';simp[hargs]
 have hT:c.argTypes= #[t,u]:=by apply Array.ext';simp[htys]
 have hz:(match d with| .int _=>true|_=>false)=false:=by cases d<;>first|rfl|exact absurd rfl (hdi _)
 have hc:=S.cells w rfl;have hl:=S.len w;have AW:(Builtin.append_ #[t,u] o.type #[a.eval X,a.eval Y]).run P w= .ok (a.eval X) w:=by
  rw[hX];simp only[Builtin.append_,List.getElem?_toArray,List.getElem?_cons_zero,List.getElem?_cons_succ,Sem.run_bind,run_underlying ht,run_underlying hu,Result.andThen_ok,sizeOf,typeInfo,run_program,hi,Sem.run_pure,hz,
   acb,if_false,hl,Nat.add_zero,Ad,if_true,adb,hc]
  cases base<;>rfl
 refine ap R hd hk (v:=a.eval X) (cx ho hb ?_) hy hr;rw[hAr,hT];simp only[List.map_toArray,List.map_cons,List.map_nil,builtin,Sem.run_bind,AW,Result.andThen_ok,Sem.run_pure]
theorem XO (R:Rel cfg x N s a w) (ho:o.op= .call c) (hb:c.callee= .builtin .append) {k:Nat} (hd:o.dst=some k) (hk:k<N) {X Y:Operand} (hargs:c.args.toList=[X,Y]) {t u e:TypeId} (htys:c.argTypes.toList=[t,u])
   (ht:P.underlying t=some (.slice e)) {d:TypeDesc} (hu:P.underlying u=some d) (hdi:∀ k,d≠ .int k) {i:TypeInfo} (hi:P.info? e=some i) {zd:D} (hzd:Cj P e=some zd) (hzl:zd.cells.length=i.size) (Bz:zd.storable=true)
   (hb0:i.bytes≠0) (hz0:i.size≠0) {p:AB} (hX:Ah X=some p) {y:V} (hy:val cfg s p=some y) {ys:List D} {news:List Value} (S:Src P w i.size (a.eval Y) ys.length news)
   (hs:∀ (j:Nat) e,ys[j]? =some e→∀ (m:Nat) c,e.cells[m]? =some c→c.AP=true∧∃ v,news[j*i.size+m]? =some v∧Rd (AE x) w v c∧v.oneCell'=true)
   {r:List (Loc×V)} (hr:fh s (some k) i.size i.bytes p y ys=some r):Az P cfg x N dep (AK s r) a w o:=by
 obtain⟨l0,B7,hl0⟩:=bb R hX hy;unfold fh at hr;split at hr
 · rename_i hc
   simp only[aca,ab4] at hc;obtain⟨hc1,hc2⟩:=hc;have hyz:=jn hc1;have hnil:ys=[]→Src P w i.size (a.eval Y) 0 []:=fun e=>by
     subst e;have:=S.num;simp at this;subst this;exact S
   split at hr
   ·
     obtain⟨ad,hv⟩:=B7.An.Dm;split at hr
     · cases hr
       rw[← hd];exact t8 R ho hb hd hk hargs htys ht hu hdi hi (ab5 _) hv (hnil rfl) rfl B7
     · rename_i Ai
       split at hr
       · rename_i hm
         cases hr;exact append_nil R ho hb hd hk hargs htys ht hu hdi hi hzd hzl Bz hc2 hb0 hz0 hv Ai hm hyz S hs
       · cases hr
   ·
     split at hr
     · cases hr
       obtain⟨ad,cap,e,Ad⟩:=B7.An.EE;rw[← hd];exact t8 R ho hb hd hk hargs htys ht hu hdi hi Ad e (hnil rfl) rfl B7
     · cases hr
   ·
     rename_i j nw z' es;split at hr
     · rename_i hq
       obtain⟨rfl,hq2⟩:=hq;cases hr;obtain⟨hl1,rfl⟩:=hl0 j rfl;have he:s (.slot j)=some (.own nw i.size es):=hy;obtain⟨b,o',cap,q1,q2,q3,q4⟩:=R.Bi he;exact w7 R ho hb hd hk hargs htys ht hu hdi hi hzd hzl Bz hc2 hb0 he q2 q4 q3 (by simpa[Aa,Act.eval] using q1) hq2 hyz S hs
     · cases hr
   ·
     rename_i l off n;split at hr
     · rename_i z' es hs0
       split at hr
       · rename_i hq
         obtain⟨rfl,hq2,rfl,hq4⟩:=hq;cases hr;obtain⟨b,o',cap',q1,q2,q3,q4,q5⟩:=R.EN B7 hs0;have hlen:(es.take n).length=n:=by simp;omega
         have q5':Arr (AE x) w b o' cap' i.size (es.take n):=by simpa using q5
         exact w7 R ho hb hd hk hargs htys ht hu hdi hi hzd hzl Bz hc2 hb0 hs0 q2 q5' abu (by rw[q1,hlen]) abu hyz S hs
       · cases hr
     · cases hr
   · cases hr
 · cases hr
end
end Go.Ev
namespace Go.Ev
open Go
section
variable {P:Program} {cfg:Cfg} {x:Cx} {N dep:Nat} {s:Get} {a:Act} {w:World}
theorem uv {n:Int} (h0:0≤n) (h1:n≤2 ^ 62):IntKind.i64.wrap n=n:=by
 have e:IntKind.i64.wrap n=(if n % 18446744073709551616≥9223372036854775808 then n % 18446744073709551616-18446744073709551616 else n % 18446744073709551616):=by
  simp[IntKind.wrap,IntKind.bits,IntKind.signed]
 rw[e];have:(2:Int) ^ 62=4611686018427387904:=abx;split<;>omega
theorem XC (R:Rel cfg x N s a w) {o:Oper} {t e:TypeId} {L C:Operand} (ho:o.op= .makeSlice t L C) {k:Nat} (hd:o.dst=some k) (hk:k<N) (ht:P.underlying t=some (.slice e)) {i:TypeInfo} (hi:P.info? e=some i)
  {zd:D} (hzd:Ei P e=some zd) {l c:AB} (hL:Ah L=some l) (hC:Ah C=some c) (hz0:i.size≠0) {n m:Int} (hn:(dat cfg s l).bind D.toInt? =some n) (hm:(dat cfg s c).bind D.toInt? =some m)
  (h:0≤n∧n≤m∧m≤bh∧i.bytes≤2048∧zd.cells.length=i.size∧zd.storable):Az P cfg x N dep (AK s (AG o.dst (.own true i.size (List.replicate n.toNat zd)))) a w o:=by
 obtain⟨h1,h2,h3,h4,h5,h6⟩:=h;obtain⟨kl,el⟩:=gk R hL hn;obtain⟨kc,ec⟩:=gk R hC hm;have hmost:(bh:Int)=68719476736:=abx;have p62:(2:Int) ^ 62=4611686018427387904:=abx;have p48:(2:Int) ^ 48=281474976710656:=abx;simp only[Ei,ab7] at hzd;obtain⟨zv,⟨i',hi',hz1⟩,hz2⟩:=hzd;rw[hi] at hi';cases hi';have hzr:=alm (F:=AE x) (w:=w) hz2;obtain⟨r1,_,_⟩:=hzr.cells h6;have wn:IntKind.i64.wrap n=n:=uv h1 abu;have wm:IntKind.i64.wrap m=m:=uv abu abu;have hbm:(i.bytes:Int)*m≤281474976710656:=by
  have:(i.bytes:Int)*m≤2048*m:=Int.mul_le_mul_of_nonneg_right abu abu;omega
 have AW:(execOp a.eval o).run P w= .ok (.value (.slice (some (ad3 w.heap.size 0)) n.toNat m.toNat)) (w.alloc (.cells ((Array.range (m.toNat*i.size)).map (zv.cells[· % zv.cells.size]!)) e)):=by
  have c2:((decide (m<0)||decide ((i.bytes:Int)*m>2 ^ 48)||decide (n<0)||decide (n>m))=true)=False:=by
    simp only[acu,ab4,eq_iff_iff,iff_false];omega
  simp only[execOp,ho,el,ec,Instr.makeSlice,asInt,asIntOf,Sem.run_bind,run_underlying ht,Result.andThen_ok,Sem.run_pure,typeInfo,run_program,hi,wn,wm,c2,if_false,run_askRoom,sizeOf];by_cases e0:m.toNat*i.size=0
  · have e1:(Array.range (m.toNat*i.size)).map (fun q=>(#[]:Array Value)[q % (#[]:Array Value).size]!)=(Array.range (m.toNat*i.size)).map (zv.cells[· % zv.cells.size]!):=by rw[e0];simp
    rw[if_pos e0];simp only[pure_bind,e1];rfl
  · rw[if_neg e0]
    simp only[Sem.run_bind,zeroValue,typeInfo,run_program,Result.andThen_ok,hi,hz1,Sem.run_pure];rfl
 have hzn:=DA.Zb (n:=n.toNat) hzr h6 h5 hz0;refine⟨_,_,x.AU w.heap.size (some (.at (.slot k))),.inl AW,?_,Fr.alloc _ _⟩;rw[hd];refine(R.alloc _ (some (.at (.slot k)))).putAt hk abw ?_;refine .own _ _ _ _ m.toNat i.size true _ abw abw abu (zr hzn hz0 (by simp;omega) _ abw (fun j v hj=> ?_) e _ abw w rfl R)
 rw[Array.getElem?_map] at hj ⊢;cases hq:(Array.range (n.toNat*i.size))[j]? with
 |none=>rw[hq] at hj;cases hj
 | some q=>
  rw[hq] at hj;have hlt:j<n.toNat*i.size:=by simpa using(act.1 hq).1
  have hle:n.toNat*i.size≤m.toNat*i.size:=ac0 _ abu;rw[Array.getElem?_range,if_pos hlt] at hq;cases hq;rw[Array.getElem?_range,if_pos abu];exact hj
theorem Rel.IG {d k:Nat} (hb:x.ow (x.ad d k)=some (.box d k)):∀ (cs:List D) (off:Nat) (s:Get) (_:Rel cfg x N s a w),(off=0∨(s (.cell ⟨d,k,0⟩)).isSome)→
  (∀ (j:Nat) c,cs[j]? =some c→w.frozen? (ad3 (x.ad d k) (off+j))=false∧∃ v,w.cell? (ad3 (x.ad d k) (off+j))=some v∧Rd (AE x) w v c)→
  Rel cfg x N (AK s (df d k off (cs.map .d))) a w
 | [],off,s,R,_,_=>R
 | c::cs,off,s,R,hal,h=>by
  obtain⟨h1,v,h2,h3⟩:=h 0 c rfl;have R1:=R.Qm (c:=⟨d,k,off⟩) hb hal (by simpa using h1) (v:=v) (by simpa using h2) (y:= .d c) rfl (l:=none) (.d _ _ _ h3)
  refine Rel.IG hb cs (off+1) _ R1 (.inr ?_) (fun j c' hj=>by
    have:=h (j+1) c' (by simpa using hj)
    rw[show off+(j+1)=off+1+j by omega] at this
    exact this)
  show(if _ then _ else _:Option V).isSome
  rcases hal with rfl|hal
  · simp
  · split<;>simp[hal]
theorem ml {d k:Nat}:∀ (vs:List V) (off:Nat),∀ p∈df d k off vs,∃ i,p.1= .cell ⟨d,k,off+i⟩
 | [],_,p,h=>by simp[df] at h
 | v::vs,off,p,h=>by
  rcases ach.1 h with rfl|h
  · exact⟨0,rfl⟩
  · obtain⟨i,hi⟩:=ml vs (off+1) p h
    exact⟨i+1,by rw[hi];congr 2;omega⟩
theorem ak8 {d k:Nat} (s:Get) (v:V) (vs:List V):(AK s (df d k 0 (v::vs)) (.cell ⟨d,k,0⟩)).isSome:=by
 have h1:df d k 0 (v::vs)=(.cell ⟨d,k,0⟩,v)::df d k 1 vs:=rfl;rw[h1,bc,ol _ _ (fun p hp=>by
  obtain⟨i,hi⟩:=ml vs 1 p hp;rw[hi];simp)]
 simp
theorem ux (s:Get) (l:Loc) (y:V) (u:List (Loc×V)) (h:∀ p∈u,p.1≠l) (l':Loc):AK s ((l,y)::u) l'=AK (AK s u) [(l,y)] l':=aaz u s y h l'
theorem UN (R:Rel cfg x N s a w) {o:Oper} {k:Nat} (hd:o.dst=some k) (hk:k<N) (h0:s (.cell ⟨dep,k,0⟩)=none) {v:Value} {y:D} (hr:Rd (AE x) w v y) (Bz:y.storable=true) (Ai:y.cells≠[]) (t:TypeId)
  (AW:(execOp a.eval o).run P w= .ok (.value (.pointer (some (ad3 w.heap.size 0)))) (w.alloc (.cells v.cells t))):
  Az P cfg x N dep (AK s ((.slot k,.ref dep k 0)::df dep k 0 (y.cells.map .d))) a w o:=by
 obtain⟨c1,c2,c3⟩:=hr.cells Bz;have R1:=(R.alloc (.cells v.cells t) (some (.box dep k))).lay h0 w.heap.size;have hmono:∀ b o u,AE x b→w.cell? (ad3 b o)=some u→AE ((x.AU w.heap.size (some (.box dep k))).lay dep k w.heap.size) b∧(w.alloc (.cells v.cells t)).cell? (ad3 b o)=some u:=fun b o u h1 h2=>by
  have hlt:=World.block_lt_of_cell? _ _ h2;refine⟨?_,by rw[World.cell?_alloc_lt _ _ _ hlt];exact h2⟩
  show(x.AU w.heap.size (some (.box dep k))).ow b=none;rw[Cx.AO];· exact h1
  simp at hlt;omega
 have R2:=Rel.IG (d:=dep) (k:=k) abw y.cells 0 _ R1 (.inl rfl) (fun j c hj=>by
  simp only[Nat.zero_add,Cx.EI];refine⟨World.frozen?_alloc_new _ _ _ _,?_⟩;have hjl:j<v.cells.size:=by rw[c1];exact(ab1.1 hj).1
  refine⟨v.cells[j],by rw[World.cell?_alloc_new];simp[hjl],?_⟩
  exact(c3 j _ c (acm hjl) hj).1.mono hmono)
 have hcons:∃ c cs,y.cells=c::cs:=by cases h:y.cells with|nil=>exact absurd h Ai|cons c cs=>exact⟨c,cs,rfl⟩
 obtain⟨c,cs,hcs⟩:=hcons;have R3:=R2.put hk (v:= .pointer (some (ad3 w.heap.size 0))) (y:= .ref dep k 0) rfl (l:=none) (by
  have:=RdV.ref (x:=(x.AU w.heap.size (some (.box dep k))).lay dep k w.heap.size) (s:=AK s (df dep k 0 (y.cells.map .d))) (cv:=Aa ((x.AU w.heap.size (some (.box dep k))).lay dep k w.heap.size) a (w.alloc (.cells v.cells t)))
   (w:=w.alloc (.cells v.cells t)) none dep k 0 (by rw[hcs];exact ak8 s _ _)
  rwa [Cx.EI] at this)
 refine⟨_,_,(x.AU w.heap.size (some (.box dep k))).lay dep k w.heap.size,.inl AW,?_,(Fr.alloc _ _).trans (Fr.lay (ab5 _))⟩;rw[hd];refine R3.congr (ux s _ _ _ (fun p hp=> ?_))
 obtain⟨i,hi⟩:=ml _ 0 p hp;rw[hi];simp
theorem bda (R:Rel cfg x N s a w) {o:Oper} {t:TypeId} (ho:o.op= .alloc t) {k:Nat} (hd:o.dst=some k) (hk:k<N) {z:D} (hz:Cj P t=some z) (Ai:z.cells≠[]) (Bz:z.storable=true)
  (h0:s (.cell ⟨dep,k,0⟩)=none):Az P cfg x N dep (AK s ((.slot k,.ref dep k 0)::df dep k 0 (z.cells.map .d))) a w o:=by
 simp only[Cj,ab7] at hz;obtain⟨zv,⟨i,hi,hz1⟩,hz2⟩:=hz;refine UN R hd hk h0 (jt hz2) Bz Ai t ?_;simp only[execOp,ho,Instr.alloc,Sem.run_bind,zeroValue,typeInfo,run_program,Result.andThen_ok,hi,Sem.run_pure,hz1];rfl
theorem XJ (R:Rel cfg x N s a w) {o:Oper} {t:TypeId} {X:Operand} (ho:o.op= .box t X) {k:Nat} (hd:o.dst=some k) (hk:k<N) {p:AB} (hX:Ah X=some p) {n:Nat} {y:V} (hy:val cfg s p=some y)
   {u:List (Loc×V)} (hu:Ep dep s k n y=some u):Az P cfg x N dep (AK s u) a w o:=by
 obtain⟨l0,hr,hl0⟩:=bb R hX hy;unfold Ep at hu;split at hu
 · cases hu
 · rename_i hal
   have h0:s (.cell ⟨dep,k,0⟩)=none:=by simpa using hal
   have AW:∀ v,a.eval X=v→(execOp a.eval o).run P w= .ok (.value (.pointer (some (ad3 w.heap.size 0)))) (w.alloc (.cells v.cells t)):=fun v e=>by
     simp only[execOp,ho,e,Instr.box];rfl
   have one:∀ (v:Value) (yv:V),a.eval X=v→v.oneCell'=true→yv.A5=false→RdV x s (Aa x a w) w none v yv→
       ∃ x',Rel cfg x' N (AK s [(.slot k,.ref dep k 0),(.cell ⟨dep,k,0⟩,yv)]) (a.put (some k) (.pointer (some (ad3 w.heap.size 0)))) (w.alloc (.cells v.cells t))∧Fr dep x x' w (w.alloc (.cells v.cells t))∧
         x'.ad dep k=w.heap.size∧(∀ b,b<w.heap.size→x'.ow b=x.ow b):=by
     intro v yv e h1 hn hrv;have hvc:v.cells= #[v]:=by cases v<;>first|rfl|simp[Value.oneCell'] at h1
     have R1:=(R.alloc (.cells v.cells t) (some (.box dep k))).lay h0 w.heap.size;have hlt:∀ b o' u,w.cell? (ad3 b o')=some u→b≠w.heap.size:=fun b o' u h e=>by have:=World.block_lt_of_cell? _ _ h;simp at this;omega
     have hrv':RdV ((x.AU w.heap.size (some (.box dep k))).lay dep k w.heap.size) s (Aa ((x.AU w.heap.size (some (.box dep k))).lay dep k w.heap.size) a (w.alloc (.cells v.cells t))) (w.alloc (.cells v.cells t)) none v yv:=by
       refine hrv.mono (fun b o' u h2 h3=>⟨?_,?_⟩) (fun b o' u h2 h3=>⟨⟨u,?_⟩,?_⟩) (fun l' z es hs=>⟨es,hs,rfl,fun b o' L C hc=>⟨L,C,?_⟩⟩) (fun d j hj=>⟨hj,?_⟩) abw
       · show(x.AU w.heap.size (some (.box dep k))).ow b=none
         rw[Cx.AO _ _ (hlt b o' u h3)];exact h2
       · rw[World.cell?_alloc_old _ _ _ (hlt b o' u h3)];exact h3
       · rw[World.cell?_alloc_old _ _ _ (hlt b o' u h2)];exact h2
       · rw[World.frozen?_alloc_old _ _ _ (hlt b o' u h2)];exact h3
       · cases l' with
         |slot j=>exact hc
         | cell c=>
          have Ai:¬ (c.d=dep∧c.k=k):=fun e=>by
           obtain⟨_,q,_⟩:=R.box c _ hs;rw[e.1,e.2,h0] at q;simp at q
          have hc':w.cell? (ad3 (x.ad c.d c.k) c.off)=some (.slice (some (ad3 b o')) L C):=hc;show(w.alloc _).cell? (ad3 (((x.AU w.heap.size (some (.box dep k))).lay dep k w.heap.size).ad c.d c.k) c.off)=_;rw[Cx.HJ _ Ai,Cx.D0,World.cell?_alloc_old _ _ _ (hlt _ _ _ hc')];exact hc'
       · refine Cx.HJ _ (fun e=> ?_)
         rw[e.1,e.2,h0] at hj;simp at hj
     have R2:=R1.Qm (c:=⟨dep,k,0⟩) abw (.inl rfl) (by rw[Cx.EI];exact World.frozen?_alloc_new w v.cells t 0) (v:=v) (by rw[Cx.EI];rw[show ad3 w.heap.size 0=⟨w.heap.size,0,none⟩ from rfl,World.cell?_alloc_new,hvc];rfl) hn hrv'
     have R3:=R2.put hk (v:= .pointer (some (ad3 w.heap.size 0))) (y:= .ref dep k 0) rfl (l:=none) (by
       have:=RdV.ref (x:=(x.AU w.heap.size (some (.box dep k))).lay dep k w.heap.size) (s:=AK s [(.cell ⟨dep,k,0⟩,yv)]) (cv:=Aa ((x.AU w.heap.size (some (.box dep k))).lay dep k w.heap.size) a (w.alloc (.cells v.cells t)))
         (w:=w.alloc (.cells v.cells t)) none dep k 0 (by simp[a8])
       rwa [Cx.EI] at this)
     exact⟨_,R3.congr (ux s _ _ _ abw),(Fr.alloc _ _).trans (Fr.lay (ab5 _)),by simp,fun b hb=>Cx.AO _ _ abu⟩
   split at hu
   · rename_i y'
     split at hu
     · rename_i hc
       obtain⟨h1,h2,h3⟩:=hc;cases hu;exact UN R hd hk h0 hr.An h3 (by intro e;rw[e] at h1;simp at h1;omega) t (AW _ rfl)
     · cases hu
   · split at hu
     · rename_i hnd hc
       obtain⟨h1,h2⟩:=hc;cases hu;have hn:y.A5=false:=by cases y<;>first|rfl|simp[V.AZ] at h2
       have hone:(a.eval X).oneCell'=true:=by
         generalize a.eval X=v at hr;cases hr<;>first|rfl| (simp[V.AZ] at h2;done)|exact absurd rfl (hnd _)|exact(hnd _ rfl).elim
       obtain⟨x',R',hF,_⟩:=one _ y rfl hone hn (hr.Cm hn);refine⟨_,_,x',.inl (AW _ rfl),?_,hF⟩;rw[hd];exact R'
     · cases hu
end
end Go.Ev
namespace Go.Ev
open Go
section
variable {P:Program} {cfg:Cfg} {x:Cx} {N dep:Nat} {s:Get} {a:Act} {w:World}
theorem l8 {o:Oper} {t:TypeId} {A X:Operand} (ho:o.op= .store t A X) {b o':Nat} (hA:a.eval A= .pointer (some (ad3 b o'))) {v:Value} (hX:a.eval X=v) {n:Nat} (hn:BO P t=some n) (hsz:v.cells.size=n)
  (hc:∀ j,j<n→(w.cell? ⟨b,o'+j,none⟩).isSome=true) (hf:∀ j,j<n→w.frozen? ⟨b,o'+j,none⟩=false) (h1:∀ (j:Nat) u,v.cells[j]? =some u→u.oneCell'=true):
  (execOp a.eval o).run P w= .ok .skip (w.setCells b o' v.cells.toList):=by
 have hl:v.cells.toList.length=n:=by simpa using hsz
 have Bz:=run_storeCells_cells (P:=P) b o' v.cells.toList 0 w (by rw[hl];simpa using hc) (by rw[hl];simpa using hf) (fun u hu=>by
  obtain⟨j,hj⟩:=acx hu;exact h1 j u (by simpa using hj))
 simp only[Nat.add_zero] at Bz;simp only[execOp,ho,Instr.storeAt,Instr.sureAddr,hA,hX,Sem.run_bind,Sem.run_pure,Result.andThen_ok,storeVar,bg hn,hsz,ne_eq,ac2,if_false];rw[Bz];rfl
theorem w8:∀ (n:Nat) (d k off:Nat),alive s d k off n=true→∀ j,j<n→(s (.cell ⟨d,k,off+j⟩)).isSome=true
 |0,_,_,_,_,j,h=>by omega
 | n+1,d,k,off,h,j,hj=>by
  simp only[alive,aca] at h;cases j with
  |zero=>exact h.1
  | succ j=>
   have:=w8 n d k (off+1) h.2 j abu;rw[show off+(j+1)=off+1+j by omega]
   exact this
theorem Rel.EF {d k:Nat}:∀ (vs:List Value) (cs:List D) (off:Nat) (s:Get) (w:World) (_:Rel cfg x N s a w),vs.length=cs.length→(∀ j,j<cs.length→(s (.cell ⟨d,k,off+j⟩)).isSome=true)→
  (∀ (j:Nat) v c,vs[j]? =some v→cs[j]? =some c→Rd (AE x) w v c)→x.ow (x.ad d k)=some (.box d k)→
  Rel cfg x N (AK s (df d k off (cs.map .d))) a (w.setCells (x.ad d k) off vs)
 | [],[],off,s,w,R,_,_,_,_=>R
 | v::vs,c::cs,off,s,w,R,hl,hal,h,hb=>by
  obtain⟨y0,hy0⟩:=acl.1 (hal 0 abw);have R1:=R.EG (c:=⟨d,k,off⟩) (by simpa using hy0) (v:=v) (y:= .d c) rfl (l:=none) (.d _ _ _ (h 0 v c rfl rfl))
  have hw:=c7 w (x.ad d k) off v;refine Rel.EF vs cs (off+1) _ _ R1 (by simpa using hl) (fun j hj=> ?_) (fun j v' c' h1 h2=> ?_) hb
  · show(if _ then _ else _:Option V).isSome
    split
    · rfl
    · have:=hal (j+1) (by simp;omega)
      rw[show off+1+j=off+(j+1) by omega]
      exact this
  · refine(h (j+1) v' c' (by simpa using h1) (by simpa using h2)).mono (fun b o u g1 g2=>⟨g1,?_⟩)
    show(w.setCell (ad3 (x.ad d k) off) v).cell? (ad3 b o)=some u;rw[hw.cell (fun e=>by rw[AE,e,hb] at g1;cases g1)]
    exact g2
 | [],_::_,_,_,_,_,hl,_,_,_=>by simp at hl
 |_::_,[],_,_,_,_,hl,_,_,_=>by simp at hl
def alj (x:Cx) (w:World) (l:Loc) (v:Value):V→Prop
 | .own _ z es=>∃ b o cap,v= .slice (some (ad3 b o)) es.length cap∧es.length≤cap∧x.ow b=some (.at l)∧Arr (AE x) w b o cap z es
 | .d c=>Rd (AE x) w v c∧c.AP=true
 |_=>False
theorem Rel.GC {d k j:Nat} (hjN:j<N):∀ (ys:List V) (vs:List Value) (off:Nat) {x:Cx} (_:Rel cfg x N s a w) (_:vs.length=ys.length) (_:∀ v,s (.slot j)=some v→v.A5=false)
  (_:∀ (m:Nat) v y,vs[m]? =some v→ys[m]? =some y→alj x w (.slot j) v y)
  (_:∀ (i j:Nat) (p q:Addr) (L C L' C':Nat) (n n':Bool) (z z':Nat) (es B8:List D),i≠j→ys[i]? =some (.own n z es)→ys[j]? =some (.own n' z' B8)→
     vs[i]? =some (.slice (some p) L C)→vs[j]? =some (.slice (some q) L' C')→p.block≠q.block),
  ∃ x',Rel cfg x' N s a w∧Fr dep x x' w w∧(∀ b,x.ow b≠some (.at (.slot j))→x'.ow b=x.ow b)∧x'.ad=x.ad∧∀ (m:Nat) v y,vs[m]? =some v→ys[m]? =some y→alj x' w (.cell ⟨d,k,off+m⟩) v y
 | [],vs,off,x,R,hl,hj,h,hd=>⟨x,R,.refl _ _ _,fun _ _=>rfl,rfl,fun m v y _ e=>by simp at e⟩
 |y0::ys,[],off,x,R,hl,hj,h,hd=>by simp at hl
 | y0::ys,v0::vs,off,x,R,hl,hj,h,hd=>by
  have h0:=h 0 v0 y0 rfl rfl;have hd':∀ (i j:Nat) (p q:Addr) (L C L' C':Nat) (n n':Bool) (z z':Nat) (es B8:List D),i≠j→ys[i]? =some (.own n z es)→ys[j]? =some (.own n' z' B8)→
     vs[i]? =some (.slice (some p) L C)→vs[j]? =some (.slice (some q) L' C')→p.block≠q.block:=fun i j p q L C L' C' n n' z z' es B8 Ai e1 e2 e3 e4=>
   hd (i+1) (j+1) p q L C L' C' n n' z z' es B8 abu (by simpa using e1) (by simpa using e2) (by simpa using e3) (by simpa using e4)
  cases y0 with
  | own nw z es=>
   obtain⟨b,o,cap,rfl,q2,q3,q4⟩:=h0;have R1:=R.relabel q3 hj (fun k' e=>by cases e;exact hjN) (.cell ⟨d,k,off⟩)
   have F1:Fr dep x (x.AU b (some (.at (.cell ⟨d,k,off⟩)))) w w:=Fr.AU q3 _;obtain⟨x',R2,F2,g1,g2,g3⟩:=Rel.GC hjN ys vs (off+1) R1 (by simpa using hl) hj (fun m v y e1 e2=>by
     have:=h (m+1) v y (by simpa using e1) (by simpa using e2)
     cases y with
     | own nw' z' B8=>
      obtain⟨b',o',cap',rfl,w2,w3,w4⟩:=this;have Ai:=hd 0 (m+1) (ad3 b o) (ad3 b' o') _ _ _ _ nw nw' z z' es B8 abu rfl (by simpa using e2) rfl (by simpa using e1)
      exact⟨b',o',cap',rfl,w2,by rw[Cx.AO _ _ (fun e=>Ai e.symm)];exact w3,w4.mono (fun b o u hb hu=>F1.Gq hb hu) (fun _ _ h=>h) (fun _ _ _ h=>h)⟩
     |d c=>exact⟨this.1.mono (fun b o u hb hu=>F1.Gq hb hu),this.2⟩
     |_=>exact this) hd'
   have hF:=F1.trans F2;refine⟨x',R2,hF,fun b' hb=> ?_,g2,fun m v y e1 e2=> ?_⟩
   · have Ai:b'≠b:=fun e=>hb (e ▸ q3)
     rw[g1 b' (by rw[Cx.AO _ _ Ai];exact hb),Cx.AO _ _ Ai]
   · cases m with
     | zero=>
      simp only[List.getElem?_cons_zero,Option.some.injEq] at e1 e2;subst e1;subst e2;refine⟨b,o,cap,rfl,q2,?_,q4.mono (fun b o u hb hu=>hF.Gq hb hu) (fun _ _ h=>h) (fun _ _ _ h=>h)⟩
      rw[g1 b abw];simp
     | succ m=>
      have:=g3 m v y (by simpa using e1) (by simpa using e2)
      rw[show off+(m+1)=off+1+m by omega]
      exact this
  | d c=>
   obtain⟨x',R2,F2,g1,g2,g3⟩:=Rel.GC hjN ys vs (off+1) R (by simpa using hl) hj (fun m v y e1 e2=>h (m+1) v y (by simpa using e1) (by simpa using e2)) hd'
   refine⟨x',R2,F2,g1,g2,fun m v y e1 e2=> ?_⟩
   cases m with
   | zero=>
     simp only[List.getElem?_cons_zero,Option.some.injEq] at e1 e2;subst e1;subst e2;exact⟨h0.1.mono (fun b o u hb hu=>F2.Gq hb hu),h0.2⟩
   | succ m=>
     have:=g3 m v y (by simpa using e1) (by simpa using e2)
     rw[show off+(m+1)=off+1+m by omega]
     exact this
  |_=>exact h0.elim
theorem Rel.IW {d k:Nat}:∀ (vs:List Value) (ys:List V) (off:Nat) (s:Get) (w:World) (_:Rel cfg x N s a w),vs.length=ys.length→(∀ j,j<ys.length→(s (.cell ⟨d,k,off+j⟩)).isSome=true)→
  (∀ (m:Nat) v y,vs[m]? =some v→ys[m]? =some y→alj x w (.cell ⟨d,k,off+m⟩) v y)→x.ow (x.ad d k)=some (.box d k)→∀ u,gm d k off ys=some u→
  Rel cfg x N (AK s u) a (w.setCells (x.ad d k) off vs)
 | [],[],off,s,w,R,_,_,_,_,u,hu=>by cases hu;exact R
 | v::vs,y::ys,off,s,w,R,hl,hal,h,hb,u,hu=>by
  obtain⟨y0,hy0⟩:=acl.1 (hal 0 abw);have hw:=c7 w (x.ad d k) off v;have hfr:∀ b o u,AE x b→w.cell? (ad3 b o)=some u→AE x b∧(w.setCell (ad3 (x.ad d k) off) v).cell? (ad3 b o)=some u:=fun b o u g1 g2=>⟨g1,by
   rw[hw.cell (fun e=>by rw[AE,e,hb] at g1;cases g1)];exact g2⟩
  have hAt:∀ (l:Loc) b o cap z es,x.ow b=some (.at l)→Arr (AE x) w b o cap z es→Arr (AE x) (w.setCell (ad3 (x.ad d k) off) v) b o cap z es:=fun l b o cap z es g1 g2=>by
   have Ai:b≠x.ad d k:=fun e=>by rw[e,hb] at g1;cases g1
   exact g2.mono hfr (fun o u g=>by rw[hw.cell Ai];exact g) (fun o u _ g=>by rw[hw.frozen Ai];exact g)
  have htl:∀ (m:Nat) v' y',vs[m]? =some v'→ys[m]? =some y'→alj x (w.setCell (ad3 (x.ad d k) off) v) (.cell ⟨d,k,off+1+m⟩) v' y':=fun m v' y' e1 e2=>by
   have:=h (m+1) v' y' (by simpa using e1) (by simpa using e2)
   rw[show off+(m+1)=off+1+m by omega] at this
   cases y' with
   |own nw z es=>obtain⟨b,o,cap,rfl,w2,w3,w4⟩:=this;exact⟨b,o,cap,rfl,w2,w3,hAt _ _ _ _ _ _ w3 w4⟩
   |d c=>exact⟨this.1.mono hfr,this.2⟩
   |_=>exact this
  have hal':∀ (q:V) j,j<ys.length→(AK s [(.cell ⟨d,k,off⟩,q)] (.cell ⟨d,k,off+1+j⟩)).isSome=true:=fun q j hj=>by
   show(if _ then _ else _:Option V).isSome
   split
   · rfl
   · have:=hal (j+1) (by simp;omega)
     rw[show off+1+j=off+(j+1) by omega]
     exact this
  have h0:=h 0 v y rfl rfl;cases y with
  | own nw z es=>
   obtain⟨b,o,cap,rfl,w2,w3,w4⟩:=h0;simp only[Nat.add_zero] at w3;simp only[gm,abz] at hu;obtain⟨u',hu',rfl⟩:=hu;have R1:=R.EG (c:=⟨d,k,off⟩) (by simpa using hy0) (v:= .slice (some (ad3 b o)) es.length cap) (y:= .AM) rfl (l:=none) (.AM _ _)
   have hconc:Aa x a (w.setCell (ad3 (x.ad d k) off) (.slice (some (ad3 b o)) es.length cap)) (.cell ⟨d,k,off⟩)=some (.slice (some (ad3 b o)) es.length cap):=by
     obtain⟨u0,hu0,_⟩:=R.Bl _ _ hy0;exact World.cell?_setCell_same _ _ _ hu0
   have R2:=R1.VW (l1:= .cell ⟨d,k,off⟩) (y1:= .AM) (by simp[bc]) w3 hconc (hAt _ _ _ _ _ _ w3 w4) rfl w2
   have R3:Rel cfg x N (AK s [(.cell ⟨d,k,off⟩,.own true z es)]) a (w.setCell (ad3 (x.ad d k) off) (.slice (some (ad3 b o)) es.length cap)):=R2.congr (fun l=>by
     simp only[bc,mp];split<;>rfl)
   exact Rel.IW vs ys (off+1) _ _ R3 (by simpa using hl) (hal' _) htl hb u' hu'
  | d c=>
   simp only[gm] at hu;split at hu
   · simp only[abz] at hu
     obtain⟨u',hu',rfl⟩:=hu;have R1:=R.EG (c:=⟨d,k,off⟩) (by simpa using hy0) (v:=v) (y:= .d c) rfl (l:=none) (.d _ _ _ h0.1)
     exact Rel.IW vs ys (off+1) _ _ R1 (by simpa using hl) (hal' _) htl hb u' hu'
   · cases hu
  |_=>exact h0.elim
 | [],_::_,_,_,_,_,hl,_,_,_,_,_=>by simp at hl
 |_::_,[],_,_,_,_,hl,_,_,_,_,_=>by simp at hl
theorem pi {d k:Nat}:∀ {ys:List V} {off:Nat} {u:List (Loc×V)},gm d k off ys=some u→∀ y∈ys,(∃ c,y= .d c∧c.AP=true)∨∃ nw z es,y= .own nw z es
 | [],_,_,_,y,hy=>by simp at hy
 | .d c::r,off,u,h,y,hy=>by
  simp only[gm] at h;split at h
  · rename_i hc
    simp only[abz] at h;obtain⟨u',h,_⟩:=h;rcases ach.1 hy with rfl|hy
    · exact .inl ⟨c,rfl,hc⟩
    · exact pi h y hy
  · cases h
 | .own nw z es::r,off,u,h,y,hy=>by
  simp only[gm,abz] at h;obtain⟨u',h,_⟩:=h;rcases ach.1 hy with rfl|hy
  · exact .inr ⟨nw,z,es,rfl⟩
  · exact pi h y hy
 | .bor _ _ _::_,_,_,h,_,_| .Am _ _ _::_,_,_,h,_,_| .Af _ _::_,_,_,h,_,_| .ref _ _ _::_,_,_,h,_,_| .clo _ _ _::_,_,_,h,_,_
 | .ifc _ _::_,_,_,h,_,_| .vec _::_,_,_,h,_,_| .BB _::_,_,_,h,_,_| .rcd _::_,_,_,h,_,_| .AM::_,_,_,h,_,_=>by cases h
theorem Fr.EF {d k:Nat} (hb:x.ow (x.ad d k)=some (.box d k)) (o:Nat) (vs:List Value):Fr dep x x w (w.setCells (x.ad d k) o vs):=
 ⟨by rw[jf];exact ab5 _,fun b' _ h=>⟨ef _ _ _ _ (fun e=>by rw[e,hb] at h;simp at h),rfl⟩,fun _ _ _=>rfl,mg _ _ _ _,(bw _ _ _ _).room,rfl⟩
theorem d9 {s':Get} {o:Oper} {x':Cx} {w':World} (hd:o.dst=none) (AW:(execOp a.eval o).run P w= .ok .skip w') (R:Rel cfg x' N s' a w') (hF:Fr dep x x' w w'):Az P cfg x N dep s' a w o:=
 ⟨undef,w',x',.inr ⟨AW,rfl⟩,by rw[hd];exact R,hF⟩
theorem alt {e e':D} {off:Nat} {cs:List D} (h:e.setAt off cs=some e') (hc:∀ c∈cs,c.AP=true) (Ai:cs≠[]) (he:∀ c∈e.cells,c.AP=true):
   off+cs.length≤e.cells.length∧e'.cells.length=e.cells.length∧∀ m,e'.cells[m]? =if off≤m∧m<off+cs.length then cs[m-off]? else e.cells[m]? :=by
 unfold D.setAt at h;split at h
 · rename_i hb
   split at h
   · rename_i es
     cases h;obtain⟨g1,g2⟩:=jw cs es off hb;exact⟨hb,g1,g2⟩
   · rename_i hna
     have hcells:e.cells=[e]:=by cases e<;>first|rfl|exact absurd rfl (hna _)
     rw[hcells] at hb;simp at hb;split at h
     · exact absurd rfl Ai
     · rename_i c r
       split at h
       · cases h
         simp at hb;have hr:r=[]:=by apply acw;omega
         have ho:off=0:=abu;subst hr;subst ho;have hec:∀ d:D,d.AP=true→d.cells=[d]:=fun d h=>by cases d<;>first|rfl|simp[D.AP] at h
         have:=hec e' (hc e' abw);rw[this,hcells];refine⟨by simp,rfl,fun m=> ?_⟩
         cases m with
         |zero=>simp
         |succ m=>simp
       · cases h
 · cases h
theorem bcz (R:Rel cfg x N s a w) {o:Oper} {t:TypeId} {A X:Operand} (ho:o.op= .store t A X) (hd:o.dst=none) {n:Nat} (hn:BO P t=some n) {p q:AB} (hA:Ah A=some p) (hX:Ah X=some q) {ya yx:V} (hya:val cfg s p=some ya) (hyx:val cfg s q=some yx)
   {u:List (Loc×V)} (hu:bz s n ya q yx=some u):Az P cfg x N dep (AK s u) a w o:=by
 obtain⟨la,hra,_⟩:=bb R hA hya;obtain⟨lx,hrx,hlx⟩:=bb R hX hyx;generalize hva:a.eval A=va at hra;unfold bz at hu;split at hu
 ·
   rename_i d k off;split at hu
   · rename_i hal
     have hsp:=w8 n d k off hal;cases hra with
     |ref _ _ _ _ h00=>
     have hbx:∀ j,j<n→x.ow (x.ad d k)=some (.box d k)∧w.frozen? (ad3 (x.ad d k) (off+j))=false∧(w.cell? (ad3 (x.ad d k) (off+j))).isSome=true:=fun j hj=>by
       obtain⟨y0,hy0⟩:=acl.1 (hsp j hj);obtain⟨q1,q2,q3⟩:=R.box _ _ hy0;obtain⟨u0,hu0,_⟩:=R.Bl _ _ hy0;refine⟨q1,q3,?_⟩;have:w.cell? (ad3 (x.ad d k) (off+j))=some u0:=hu0;rw[this];rfl
     have AW:∀ v,a.eval X=v→v.cells.size=n→(∀ (j:Nat) u,v.cells[j]? =some u→u.oneCell'=true)→(execOp a.eval o).run P w= .ok .skip (w.setCells (x.ad d k) off v.cells.toList):=fun v e h1 h2=>
       l8 ho hva e hn h1 (fun j hj=>(hbx j hj).2.2) (fun j hj=>(hbx j hj).2.1) h2
     have one:∀ v,a.eval X=v→v.oneCell'=true→n=1→(execOp a.eval o).run P w= .ok .skip (w.setCell (ad3 (x.ad d k) off) v):=fun v e h1 h2=>by
       have hvc:v.cells= #[v]:=by cases v<;>first|rfl|simp[Value.oneCell'] at h1
       have:=AW v e (by rw[hvc];simp[h2]) (fun j u hu=>by rw[hvc] at hu;cases j with|zero=>simp at hu;subst hu;exact h1|succ j=>simp at hu)
       rw[hvc] at this;exact this
     have hown:∀ l0 nw z es0 es b o' cap,n=1→s l0=some (.own nw z es0)→x.ow b=some (.at l0)→Arr (AE x) w b o' cap z es→es.length≤cap→a.eval X= .slice (some (ad3 b o')) es.length cap→
         (if Loc.cell ⟨d,k,off⟩=l0 then some [(l0,V.own true z es)] else some [(.cell ⟨d,k,off⟩,V.own true z es),(l0,.AM)])=some u→Az P cfg x N dep (AK s u) a w o:=by
       intro l0 nw z es0 es b o' cap h1 h2 h3 h4 h5 h6 h7;subst h1;obtain⟨y0,hy0⟩:=acl.1 (hsp 0 abu);have hy0':s (.cell ⟨d,k,off⟩)=some y0:=hy0;have hb1:=(hbx 0 abu).1;have R1:=R.EG (c:=⟨d,k,off⟩) hy0' (v:= .slice (some (ad3 b o')) es.length cap) (y:= .AM) rfl (l:=none) (.AM _ _);have hw:=c7 w (x.ad d k) off (.slice (some (ad3 b o')) es.length cap);have hbne:b≠x.ad d k:=fun e=>by rw[e,hb1] at h3;cases h3
       have hA':Arr (AE x) (w.setCell (ad3 (x.ad d k) off) (.slice (some (ad3 b o')) es.length cap)) b o' cap z es:=by
         refine h4.mono (fun b2 o2 u g1 g2=>⟨g1,?_⟩) (fun o2 u g=>by rw[hw.cell hbne];exact g) (fun o2 u _ g=>by rw[hw.frozen hbne];exact g)
         rw[hw.cell (fun e=>by rw[AE,e,hb1] at g1;cases g1)];exact g2
       have hconc:Aa x a (w.setCell (ad3 (x.ad d k) off) (.slice (some (ad3 b o')) es.length cap)) (.cell ⟨d,k,off⟩)=some (.slice (some (ad3 b o')) es.length cap):=by
         obtain⟨u0,hu0,_⟩:=R.Bl _ _ hy0';exact World.cell?_setCell_same _ _ _ hu0
       have hr:=one _ h6 rfl rfl;have hF:=Fr.EG (dep:=dep) (w:=w) hb1 off (.slice (some (ad3 b o')) es.length cap);split at h7
       · rename_i e
         cases h7;subst e;have R2:=R1.VW (l1:= .cell ⟨d,k,off⟩) (y1:= .AM) (by simp[bc]) h3 hconc hA' rfl h5
         refine d9 hd hr (R2.congr (fun l=> ?_)) hF
         simp only[bc,mp];split<;>rfl
       · rename_i e
         cases h7;have R2:=R1.reown (l0:=l0) (l1:= .cell ⟨d,k,off⟩) (fun e'=>e e'.symm) (nw:=nw) (z:=z) (es:=es0) (y1:= .AM) (by rw[a8,if_neg (fun e'=>e e'.symm)];exact h2) (by simp[bc]) h3 hconc hA' rfl h5
         refine d9 hd hr (R2.congr (fun l=> ?_)) (hF.trans (Fr.AU h3 _))
         simp only[bc,mp];by_cases e1:l=l0
         · simp[e1]
         · by_cases e2:l= .cell ⟨d,k,off⟩<;>simp[e1,e2]
     split at hu
     · rename_i j nw z es
       split at hu
       · rename_i h1
         obtain⟨hl1,rfl⟩:=hlx j rfl;have he:s (.slot j)=some (.own nw z es):=hyx;obtain⟨b,o',cap,q1,q2,q3,q4⟩:=R.Bi he;exact hown _ nw z es es b o' cap h1 he q2 q4 q3 (by simpa[Aa,Act.eval] using q1) (by rw[if_neg abw];exact hu)
       · cases hu
     · rename_i j ys
       split at hu
       · rename_i hq
         obtain⟨h1,h2⟩:=hq;simp only[abz] at hu;obtain⟨u',hu',rfl⟩:=hu;obtain⟨hl1,rfl⟩:=hlx j rfl;have he:s (.slot j)=some (.rcd ys):=hyx;obtain⟨v,hv,hr⟩:=R.Bl _ _ he;have hv':a.eval (.tmp j)=v:=by simpa[Aa,Act.eval] using hv
         cases hr with
         |rcd _ vs _ hvl hvr hvd=>
         have hall:=pi hu';have hsl:∀ (m:Nat) v y,vs[m]? =some v→ys[m]? =some y→alj x w (.slot j) v y:=fun m v y e1 e2=>by
           have:=hvr m v y e1 e2;rcases hall y (List.mem_of_getElem? e2) with⟨c,rfl,hc⟩|⟨nw,z,es,rfl⟩
           · exact⟨this.An,hc⟩
           · cases this with
             |own _ b o len cap _ _ _ how hlen Ad A=>exact⟨b,o,cap,by rw[hlen],by omega,how,A⟩
         have hone:∀ (m:Nat) v,vs[m]? =some v→v.oneCell'=true:=fun m v e1=>by
           have hm:m<ys.length:=by rw[← hvl];exact(ab1.1 e1).1
           have:=hsl m v _ e1 (ab0 hm);rcases hall ys[m] (List.getElem_mem hm) with⟨c,hc1,hc⟩|⟨nw,z,es,hc1⟩
           · rw[hc1] at this;exact this.1.DY this.2
           · rw[hc1] at this;obtain⟨b,o,cap,rfl,_⟩:=this;rfl
         have hr:=AW _ hv' (by simp[Value.cells,hvl,h1]) (fun m u hm=>hone m u (by simpa[Value.cells] using hm))
         have R0:=R.forget (l0:= .slot j) (by rw[he];rfl)
         obtain⟨x',R1,F1,g1,g2,g3⟩:=Rel.GC (dep:=dep) (d:=d) (k:=k) (R.CB _ _ he) ys vs off R0 hvl (fun v hv'=>by simp only[a8,if_pos] at hv';cases hv';rfl) hsl hvd
         have hb1:=(hbx 0 abu).1;have hb2:x'.ow (x'.ad d k)=some (.box d k):=by rw[g2,g1 _ (by rw[hb1];simp)];exact hb1
         have R2:=Rel.IW vs ys off _ w R1 hvl (fun m hm=>by
           have:=hsp m abu;rw[a8];split
           · rfl
           · exact this) g3 hb2 u' hu'
         rw[g2] at R2;have e2:(Value.agg vs.toArray).cells.toList=vs:=by simp[Value.cells]
         rw[e2] at hr;exact d9 hd hr R2 (F1.trans (by have:=Fr.EF (dep:=dep) (w:=w) hb2 off vs;rw[g2] at this;exact this))
       · cases hu
     · rename_i l o2 m
       split at hu
       · rename_i z es hs0
         split at hu
         · rename_i hq
           obtain⟨rfl,rfl,h1⟩:=hq;obtain⟨b,o',cap',q1,q2,q3,q4,q5⟩:=R.EN hrx hs0;simp only[List.drop_zero,List.take_length] at q5;exact hown _ false z es es b o' cap' h1 hs0 q2 q5 q4 q1 hu
         · cases hu
       · cases hu
     · rename_i y
       split at hu
       · rename_i hq
         obtain⟨h1,h2⟩:=hq;cases hu;obtain⟨c1,c2,c3⟩:=hrx.An.cells h2;by_cases hn0:n=0
         · subst hn0
           have e1:y.cells=[]:=acw h1;have e2:(a.eval X).cells.toList=[]:=acw (by simpa[c1] using h1)
           have hr:=AW _ rfl abu (fun j u hu=>by have:=(act.1 hu).1;omega)
           rw[e2] at hr;rw[e1];exact d9 hd hr R (Fr.refl _ _ _)
         · have hb1:=(hbx 0 abu).1
           have hr:=AW _ rfl abu (fun j u hu=>by
             have hj:j<y.cells.length:=by rw[← c1];exact(act.1 hu).1
             exact(c3 j u _ hu (ab0 hj)).2)
           refine d9 hd hr (Rel.EF _ y.cells off s w R (by simpa using c1) (fun j hj=>hsp j abu) (fun j v c g1 g2=>(c3 j v c (by simpa using g1) g2).1) hb1) (Fr.EF hb1 off _)
       · cases hu
     · rename_i hno hnb hnd
       split at hu
       · rename_i hq
         obtain⟨h1,h2⟩:=hq;cases hu;subst h1;obtain⟨y0,hy0⟩:=acl.1 (hsp 0 abu);have hy0':s (.cell ⟨d,k,off⟩)=some y0:=hy0;have hn1:yx.A5=false:=by cases yx<;>first|rfl|simp[V.AZ] at h2
         have hone:(a.eval X).oneCell'=true:=by
           generalize a.eval X=v at hrx;cases hrx<;>first|rfl| (simp[V.AZ] at h2;done)|exact(hnd _ rfl).elim|exact(hnb _ rfl).elim|exact(hno _ rfl).elim
         exact d9 hd (one _ rfl hone rfl) (R.EG (c:=⟨d,k,off⟩) hy0' hn1 hrx) (Fr.EG (hbx 0 abu).1 off _)
       · cases hu
   · cases hu
 ·
   rename_i l i off;split at hu
   · rename_i z es y hs0 hy
     split at hu
     · rename_i hq
       obtain⟨h1,h2⟩:=hq;simp only[ab7,abz] at hu;obtain⟨e,he,e',he',rfl⟩:=hu;have hdat:dat cfg s q=some y:=by simp[dat,hyx,hy]
       have hry:=tj R hX hdat;obtain⟨c1,c2,c3⟩:=hry.cells h2;cases hra with
       |Am _ _ _ _ b o' h=>
       obtain⟨o2,L,C,f1,f2⟩:=h _ _ hs0;obtain⟨b2,o3,cap,q1,q2,q3,q4⟩:=R.Bi hs0;rw[f1] at q1;cases q1;have hcel:=q4.cel e (List.mem_of_getElem? he);by_cases hn0:y.cells=[]
       ·
         have e2:(a.eval X).cells.toList=[]:=acw (by simpa[hn0] using c1)
         have hn00:n=0:=by rw[← h1,hn0];rfl
         subst hn00;have hr:=l8 (w:=w) (P:=P) ho hva rfl hn (by simpa[hn0] using c1) (by intro j hj;omega) (by intro j hj;omega) (fun j u hu=>by have:=(act.1 hu).1;simp[hn0] at c1;simp[c1] at this)
         rw[e2] at hr;have hee:e'=e:=by
           rw[hn0] at he';unfold D.setAt at he';split at he'
           · split at he'
             · cases he';rfl
             · cases he';rfl
           · cases he'
         subst hee;have hset:es.set i e'=es:=by
           apply List.ext_getElem?;intro m;rw[List.getElem?_set];split
           · rename_i hm
             subst hm;split
             · exact he.symm
             · rename_i hlt
               have:=(ab1.1 he).1;exact absurd this hlt
           · rfl
         rw[hset];exact d9 hd hr (R.congr (fun l'=>by rw[a8];split<;>simp_all)) (Fr.refl _ _ _)
       · obtain⟨g1,g2,g3⟩:=alt he' c2 hn0 hcel
         have hi:=(ab1.1 he).1;have hwid:=q4.wid e (List.mem_of_getElem? he);have hlt:∀ m,m<z→i*z+m<es.length*z:=fun m hm=>vw hi hm
         have hle:es.length*z≤C*z:=ac0 z q3;have hn1:n≤z:=abu;have hr:=l8 (w:=w) (P:=P) ho hva rfl hn abu (fun j hj=>by
             obtain⟨⟨u,hu⟩,_⟩:=q4.room (i*z+(off+j)) (by have:=hlt (off+j) abu;omega)
             rw[f2,show o2+i*z+off+j=o2+(i*z+(off+j)) by omega]
             have hu':w.cell? ⟨b,o2+(i*z+(off+j)),none⟩=some u:=hu;rw[hu'];rfl) (fun j hj=>by
             obtain⟨_,hf⟩:=q4.room (i*z+(off+j)) (by have:=hlt (off+j) abu;omega)
             rw[f2,show o2+i*z+off+j=o2+(i*z+(off+j)) by omega]
             exact hf) (fun j u hu=>by
             have hj:j<y.cells.length:=by rw[← c1];exact(act.1 hu).1
             exact(c3 j u _ hu (ab0 hj)).2)
         have hw:=bw w b o' (a.eval X).cells.toList;have hvl:(a.eval X).cells.toList.length=n:=by simpa[h1] using c1
         have hfree:∀ b2 o4 u,AE x b2→w.cell? (ad3 b2 o4)=some u→AE x b2∧(w.setCells b o' (a.eval X).cells.toList).cell? (ad3 b2 o4)=some u:=fun b2 o4 u p1 p2=>
           ⟨p1,by rw[hw.cell (fun e=>by rw[AE,e,q2] at p1;cases p1)];exact p2⟩
         have hA2:Arr (AE x) (w.setCells b o' (a.eval X).cells.toList) b o2 C z (es.set i e'):=by
           refine⟨q4.pos,fun j hj=> ?_,fun d hd'=> ?_,fun d hd'=> ?_,fun i2 d hd' j c hj=> ?_⟩
           · obtain⟨⟨u,hu⟩,hf⟩:=q4.room j hj
             exact⟨hw.Ac _ _ hu,by rw[hw.Gb _ ⟨u,hu⟩];exact hf⟩
           · rcases adh hd' with h|rfl
             · exact q4.wid d h
             · omega
           · rcases adh hd' with h|rfl
             · exact q4.cel d h
             · intro c hc
               obtain⟨m,hm⟩:=acx hc;rw[g3] at hm;split at hm
               · exact c2 c (List.mem_of_getElem? hm)
               · exact hcel c (List.mem_of_getElem? hm)
           · by_cases ei:i2=i
             · subst ei
               rw[List.getElem?_set_self hi] at hd';cases hd';rw[g3] at hj;split at hj
               · rename_i hin
                 have hlt2:j-off<(a.eval X).cells.toList.length:=by rw[hvl];omega
                 have hget:=World.cell?_setCells_in b (a.eval X).cells.toList o' w (fun m hm=>by
                  obtain⟨⟨u,hu⟩,_⟩:=q4.room (i2*z+(off+m)) (by have:=hlt (off+m) abu;omega)
                  rw[f2,show o2+i2*z+off+m=o2+(i2*z+(off+m)) by omega]
                  have hu':w.cell? ⟨b,o2+(i2*z+(off+m)),none⟩=some u:=hu;rw[hu'];rfl) (j-off) hlt2
                 have hsz:j-off<(a.eval X).cells.size:=by simpa using hlt2
                 refine⟨(a.eval X).cells[j-off],?_,(c3 (j-off) _ c (acm hsz) hj).1.mono hfree⟩;rw[show ad3 b (o2+i2*z+j)=⟨b,o'+(j-off),none⟩ by simp only[ad3,f2];congr 1;omega,hget]
                 simp
               · rename_i hout
                 obtain⟨v,p1,p2⟩:=q4.els i2 e he j c hj;refine⟨v,bp p1 (fun _=> ?_),p2.mono hfree⟩
                 rw[hvl,f2];omega
             · rw[List.getElem?_set_ne (Ne.symm ei)] at hd'
               obtain⟨v,p1,p2⟩:=q4.els i2 d hd' j c hj;have hjz:j<z:=by rw[← q4.wid d (List.mem_of_getElem? hd')];exact(ab1.1 hj).1
               refine⟨v,bp p1 (fun _=> ?_),p2.mono hfree⟩
               rw[hvl,f2];rcases Nat.lt_or_gt_of_ne ei with h|h
               · have:(i2+1)*z≤i*z:=ac0 z h
                 rw[ac6] at this;omega
               · have:(i+1)*z≤i2*z:=ac0 z h
                 rw[ac6] at this;omega
         exact d9 hd hr (R.write hs0 f1 q2 hw hA2 abw rfl q3) (Fr.write q2 hw)
     · cases hu
   · cases hu
 · cases hu
end
