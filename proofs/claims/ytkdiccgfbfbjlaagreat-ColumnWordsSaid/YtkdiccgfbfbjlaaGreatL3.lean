import Derived.Test.YtkdiccgfbfbjlaaGreatL2
import Derived.Laws.Tables
namespace Go.Ev
open Go
theorem wk (off:Nat):∀ (xs:List Value) (j0:Nat) (cells:Array Value),off+j0+xs.length≤cells.size→
  ((xs.zipIdx j0).foldl (fun(cs:Array Value) (p:Value×Nat)=>cs.setIfInBounds (off+p.2) p.1) cells).size=cells.size∧
  ∀ m,((xs.zipIdx j0).foldl (fun(cs:Array Value) (p:Value×Nat)=>cs.setIfInBounds (off+p.2) p.1) cells)[m]? =if off+j0≤m∧m<off+j0+xs.length then xs[m-(off+j0)]? else cells[m]?
 | [],j0,cells,_=>⟨rfl,fun m=>by simp;intro h1 h2;omega⟩
 | x::xs,j0,cells,h=>by
  simp only[List.length_cons] at h;obtain⟨g1,g2⟩:=wk off xs (j0+1) (cells.setIfInBounds (off+j0) x) (by simp;omega)
  refine⟨by simpa using g1,fun m=> ?_⟩
  simp only[List.zipIdx_cons,List.foldl_cons];rw[g2 m];by_cases h1:off+(j0+1)≤m∧m<off+(j0+1)+xs.length
  · rw[if_pos h1,if_pos (by simp;omega),show m-(off+j0)=(m-(off+(j0+1)))+1 by omega];rfl
  · rw[if_neg h1]
    by_cases h2:m=off+j0
    · subst h2
      have hlt:off+j0<cells.size:=yp;rw[if_pos yt];simp[hlt]
    · rw[if_neg (by simp;omega),Array.getElem?_setIfInBounds_ne (Ne.symm h2)]
theorem jd:∀ (ds:List D) (cs:List D) (off:Nat),off+ds.length≤cs.length→(setCells cs off ds).length=cs.length∧
  ∀ m,(setCells cs off ds)[m]? =if off≤m∧m<off+ds.length then ds[m-off]? else cs[m]?
 | [],cs,off,_=>⟨rfl,fun m=>by simp[setCells];intro h1 h2;omega⟩
 | d::ds,cs,off,h=>by
  simp only[List.length_cons] at h;obtain⟨g1,g2⟩:=jd ds (cs.set off d) (off+1) (by simp;omega)
  refine⟨by simpa[setCells] using g1,fun m=> ?_⟩
  rw[setCells,g2 m];by_cases h1:off+1≤m∧m<off+1+ds.length
  · rw[if_pos h1,if_pos (by simp;omega),show m-off=(m-(off+1))+1 by omega];rfl
  · rw[if_neg h1]
    by_cases h2:m=off
    · subst h2
      have hlt:m<cs.length:=yp;rw[if_pos yt];simp[hlt]
    · rw[if_neg (by simp;omega),List.getElem?_set_ne (Ne.symm h2)]
theorem Rd.cells {F:Nat→Prop} {w:World} {v:Value} {d:D} (h:Rd F w v d) (hs:d.storable=true):v.cells.size=d.cells.length∧(∀ c∈d.cells,c.isCell=true)∧
  ∀ (j:Nat) u c,v.cells[j]? =some u→d.cells[j]? =some c→Rd F w u c∧u.oneCell'=true:=by
 cases h with
 | agg vs cs hl hc h=>
  refine⟨by simp[Value.cells,D.cells,hl],hc,fun j u c h1 h2=> ?_⟩
  have h1':vs[j]? =some u:=by simpa[Value.cells] using h1
  have:=h j u c h1' h2;exact⟨this,this.oneCell (hc c (List.mem_of_getElem? h2))⟩
 |tup=>simp[D.storable] at hs
 | unk v hv=>
  have hvc:v.cells= #[v]:=by cases v<;>first|rfl|simp[Value.oneCell'] at hv
  refine⟨by rw[hvc];rfl,by simp[D.cells,D.isCell],fun j u c h1 h2=> ?_⟩
  rw[hvc] at h1;cases j with
  |zero=>simp at h1 h2;subst h1;cases h2;exact⟨.unk _ hv,hv⟩
  |succ j=>simp at h1
 | _=>
  refine⟨rfl,by simp[D.cells,D.isCell],fun j u c h1 h2=> ?_⟩
  cases j with
  |zero=>simp[Value.cells] at h1;simp[D.cells] at h2;subst h1;subst h2;exact⟨by first|assumption| (constructor<;>assumption)|constructor,rfl⟩
  |succ j=>simp[Value.cells] at h1
section
variable {F:Nat→Prop} {w:World}
structure CellsRd (F:Nat→Prop) (w:World) (cells:Array Value) (cs:List D):Prop where
 size:cells.size=cs.length
 cel:∀ c∈cs,c.isCell=true
 rd:∀ (i:Nat) v c,cells[i]? =some v→cs[i]? =some c→Rd F w v c
theorem CellsRd.agg {cells:Array Value} {cs:List D} (h:CellsRd F w cells cs):Rd F w (.agg cells) (.agg cs):=by
 have:=Rd.agg (F:=F) (w:=w) cells.toList cs (by simpa using h.size) h.cel (fun i v c h1 h2=>h.rd i v c (by simpa using h1) h2)
 simpa using this
theorem CellsRd.of_agg {cells:Array Value} {cs:List D} (h:Rd F w (.agg cells) (.agg cs)):CellsRd F w cells cs:=by
 cases h with
 |agg vs cs hl hc h=>exact⟨by simpa using hl,hc,fun i v c h1 h2=>h i v c (by simpa using h1) h2⟩
theorem a3t {v:Value} {d:D} (hr:Rd F w v d) (hs:d.storable=true) {cells:Array Value} {cs:List D} (h:CellsRd F w cells cs) {off:Nat} (hb:off+d.cells.length≤cs.length):
   CellsRd F w (v.cells.zipIdx.foldl (fun(cs:Array Value) (p:Value×Nat)=>cs.setIfInBounds (off+p.2) p.1) cells) (setCells cs off d.cells):=by
 obtain⟨h1,h2,h3⟩:=hr.cells hs;have e:v.cells.zipIdx.foldl (fun(cs:Array Value) (p:Value×Nat)=>cs.setIfInBounds (off+p.2) p.1) cells=
     (v.cells.toList.zipIdx 0).foldl (fun(cs:Array Value) (p:Value×Nat)=>cs.setIfInBounds (off+p.2) p.1) cells:=by
   rw[← Array.foldl_toList,Array.toList_zipIdx]
 rw[e];have hl:v.cells.toList.length=d.cells.length:=by simpa using h1
 obtain⟨g1,g2⟩:=wk off v.cells.toList 0 cells (by rw[hl,h.size];omega)
 obtain⟨f1,f2⟩:=jd d.cells cs off hb;refine⟨by rw[g1,f1,h.size],fun c hc=> ?_,fun i u c e1 e2=> ?_⟩
 · obtain⟨i,hi⟩:=aae hc
   rw[f2] at hi;split at hi
   · exact h2 c (List.mem_of_getElem? hi)
   · exact h.cel c (List.mem_of_getElem? hi)
 · rw[g2] at e1
   rw[f2] at e2;simp only[Nat.add_zero,hl] at e1;split at e1
   · rename_i hc
     rw[if_pos hc] at e2;exact(h3 (i-off) u c (by simpa using e1) e2).1
   · rename_i hc
     rw[if_neg hc] at e2;exact h.rd i u c e1 e2
theorem ai6 (place:Nat→Option (Nat×Nat)):∀ (vs:List (Nat×Value)) (ds:List (Nat×Nat×D)) (cells:Array Value) (zs cs:List D),vs.length=ds.length→
  (∀ (i:Nat) p d,vs[i]? =some p→ds[i]? =some d→place p.1=some (d.1,d.2.1)∧Rd F w p.2 d.2.2)→CellsRd F w cells zs→fillD zs ds=some cs→
  ∃ cells',Instr.fill place cells vs=some cells'∧CellsRd F w cells' cs
 | [],[],cells,zs,cs,_,_,h,hf=>by cases hf;exact⟨cells,rfl,h⟩
 | p::vs,d::ds,cells,zs,cs,hl,hp,h,hf=>by
  obtain⟨off,n,d⟩:=d;obtain⟨i,v⟩:=p;unfold fillD at hf;split at hf
  · rename_i hc
    obtain⟨c1,c2,c3⟩:=hc;obtain⟨p1,p2⟩:=hp 0 (i,v) (off,n,d) rfl rfl;simp only at p1 p2;obtain⟨r1,r2,r3⟩:=p2.cells c3;have h':=a3t p2 c3 h (off:=off) yp;obtain⟨cells',g1,g2⟩:=ai6 place vs ds _ _ cs (by simpa using hl) (fun j p d e1 e2=>hp (j+1) p d (by simpa using e1) (by simpa using e2)) h' hf
    refine⟨cells',?_,g2⟩;have hb:(v.cells.size≠n||decide (off+v.cells.size>cells.size))=false:=by
     have:=h.size;simp;omega
    simp only[Instr.fill,p1,hb,zf,if_false];exact g1
  · simp at hf
 | [],_::_,_,_,_,hl,_,_,_=>by simp at hl
 |_::_,[],_,_,_,hl,_,_,_=>by simp at hl
end
end Go.Ev
namespace Go.Ev
open Go
section
variable {F:Nat→Prop} {w:World}
structure ElsRd (F:Nat→Prop) (w:World) (cells:Array Value) (z:Nat) (es:List D):Prop where
 size:cells.size=es.length*z
 wid:∀ e∈es,e.cells.length=z
 cel:∀ e∈es,∀ c∈e.cells,c.isCell=true
 els:∀ (i:Nat) e,es[i]? =some e→∀ (j:Nat) c,e.cells[j]? =some c→∃ v,cells[i*z+j]? =some v∧Rd F w v c∧v.oneCell'=true
theorem ElsRd.mono {F':Nat→Prop} {w':World} {cells:Array Value} {z:Nat} {es:List D} (h:ElsRd F w cells z es)
  (hc:∀ b o u,F b→w.cell? (ad3 b o)=some u→F' b∧w'.cell? (ad3 b o)=some u):ElsRd F' w' cells z es:=
 ⟨h.size,h.wid,h.cel,fun i e he j c hj=>let⟨v,h1,h2,h3⟩:=h.els i e he j c hj;⟨v,h1,h2.mono hc,h3⟩⟩
theorem tj {i n j z:Nat} (h:i<n) (hj:j<z):i*z+j<n*z:=by
 have:(i+1)*z≤n*z:=zu z h;rw[aaf] at this;omega
theorem ElsRd.set {v:Value} {d:D} (hr:Rd F w v d) (hs:d.storable=true) {cells:Array Value} {z:Nat} {es:List D} (h:ElsRd F w cells z es) {i:Nat} (hi:i<es.length) (hd:d.cells.length=z):
   ElsRd F w (v.cells.zipIdx.foldl (fun(cs:Array Value) (p:Value×Nat)=>cs.setIfInBounds (i*z+p.2) p.1) cells) z (es.set i d):=by
 obtain⟨h1,h2,h3⟩:=hr.cells hs;have e:v.cells.zipIdx.foldl (fun(cs:Array Value) (p:Value×Nat)=>cs.setIfInBounds (i*z+p.2) p.1) cells=
     (v.cells.toList.zipIdx 0).foldl (fun(cs:Array Value) (p:Value×Nat)=>cs.setIfInBounds (i*z+p.2) p.1) cells:=by
   rw[← Array.foldl_toList,Array.toList_zipIdx]
 rw[e];have hl:v.cells.toList.length=z:=by simpa[hd] using h1
 have hb:i*z+z≤cells.size:=by
   rw[h.size];have:(i+1)*z≤es.length*z:=zu z hi;rw[aaf] at this;omega
 obtain⟨g1,g2⟩:=wk (i*z) v.cells.toList 0 cells (by rw[hl];omega)
 refine⟨by rw[g1,h.size];simp,fun e he=> ?_,fun e he=> ?_,fun i' e' he j c hj=> ?_⟩
 · rcases aap he with he|rfl
   · exact h.wid e he
   · exact hd
 · rcases aap he with he|rfl
   · exact h.cel e he
   · exact h2
 · have hjz:j<z:=by
     have hm:e'∈es.set i d:=List.mem_of_getElem? he;have:e'.cells.length=z:=by
       rcases aap hm with hm|rfl
       · exact h.wid _ hm
       · exact hd
     rw[← this];exact(y4.1 hj).1
   simp only[g2,Nat.add_zero,hl];by_cases e1:i'=i
   · subst e1
     rw[List.getElem?_set_self hi] at he;cases he;rw[if_pos yp,show i'*z+j-i'*z=j by omega]
     have hjl:j<v.cells.size:=by rw[h1,hd];exact hjz
     obtain⟨q1,q2⟩:=h3 j (v.cells[j]) c (zm hjl) hj;exact⟨v.cells[j],by simp[hjl],q1,q2⟩
   · rw[List.getElem?_set_ne (Ne.symm e1)] at he
     rw[if_neg]
     · exact h.els i' e' he j c hj
     · intro ⟨q1,q2⟩
       rcases Nat.lt_or_gt_of_ne e1 with hlt|hgt
       · have:(i'+1)*z≤i*z:=zu z hlt
         rw[aaf] at this;omega
       · have:(i+1)*z≤i'*z:=zu z hgt
         rw[aaf] at this;omega
theorem aul (z:Nat):∀ (vs:List (Nat×Value)) (ds:List (Nat×D)) (cells:Array Value) (zs es:List D),vs.length=ds.length→
  (∀ (i:Nat) p d,vs[i]? =some p→ds[i]? =some d→p.1=d.1∧Rd F w p.2 d.2)→ElsRd F w cells z zs→fillE z zs ds=some es→
  (∃ cells',Instr.fill (fun i=>some (i*z,z)) cells vs=some cells'∧ElsRd F w cells' z es)∧es.length=zs.length
 | [],[],cells,zs,es,_,_,h,hf=>by cases hf;exact⟨⟨cells,rfl,h⟩,rfl⟩
 | p::vs,d::ds,cells,zs,es,hl,hp,h,hf=>by
  obtain⟨i',d⟩:=d;obtain⟨i,v⟩:=p;unfold fillE at hf;split at hf
  · rename_i hc
    obtain⟨c1,c2,c3⟩:=hc;obtain⟨p1,p2⟩:=hp 0 (i,v) (i',d) rfl rfl;simp only at p1 p2;subst p1;obtain⟨r1,r2,r3⟩:=p2.cells c3;have h':=h.set p2 c3 c2 c1;obtain⟨⟨cells',g1,g2⟩,g3⟩:=aul z vs ds _ _ es (by simpa using hl) (fun j p d e1 e2=>hp (j+1) p d (by simpa using e1) (by simpa using e2)) h' hf
    refine⟨⟨cells',?_,g2⟩,by simpa using g3⟩
    have hb:(v.cells.size≠z||decide (i*z+v.cells.size>cells.size))=false:=by
     have h1:=h.size;have h2:(i+1)*z≤zs.length*z:=zu z c2;rw[aaf] at h2;simp;omega
    simp only[Instr.fill,hb,zf,if_false];exact g1
  · simp at hf
 | [],_::_,_,_,_,hl,_,_,_=>by simp at hl
 |_::_,[],_,_,_,hl,_,_,_=>by simp at hl
theorem ElsRd.zeros {zv:Value} {zd:D} {z n:Nat} (h:Rd F w zv zd) (hs:zd.storable=true) (hz:zd.cells.length=z) (hz0:z≠0):
  ElsRd F w ((Array.range (n*z)).map (zv.cells[· % zv.cells.size]!)) z (List.replicate n zd):=by
 obtain⟨h1,h2,h3⟩:=h.cells hs;refine⟨by simp,fun e he=>by rw[List.eq_of_mem_replicate he];exact hz,fun e he=>by rw[List.eq_of_mem_replicate he];exact h2,fun i e he j c hj=> ?_⟩
 obtain⟨hi,rfl⟩:i<n∧e=zd:=by
  rw[List.getElem?_replicate] at he;split at he
  · exact⟨by assumption,by cases he;rfl⟩
  · cases he
 have hjz:j<z:=by rw[← hz];exact(y4.1 hj).1
 have hjs:j<zv.cells.size:=by rw[h1,hz];exact hjz
 obtain⟨q1,q2⟩:=h3 j zv.cells[j] c (zm hjs) hj;refine⟨zv.cells[j],?_,q1,q2⟩;have hlt:=tj hi hjz;rw[Array.getElem?_map,Array.getElem?_range];simp only[hlt,if_true,Option.map_some,Option.some.injEq];rw[h1,hz,show(i*z+j) % z=j by rw[Nat.mul_comm,Nat.mul_add_mod,Nat.mod_eq_of_lt hjz]]
 simp[hjs]
end
section
variable {P:Program} {cfg:Cfg} {x:Cx} {N dep:Nat} {s:Get} {a:Act} {w:World}
theorem els_ptr {cells:Array Value} {z:Nat} {es:List D} (h:ElsRd (freeB x) w cells z es) (ty:TypeId) (R:Rel cfg x N s a w):
   ∀ (i:Nat) e,es[i]? =some e→PtrAt (freeB (x.give w.heap.size none)) (w.alloc (.cells cells ty)) w.heap.size (0+i*z) e:=by
 intro i e he;refine⟨h.cel e (List.mem_of_getElem? he),fun j c hj=> ?_⟩
 obtain⟨v,q1,q2,_⟩:=h.els i e he j c hj;refine⟨v,by simp[freeB],?_,q2.mono (fun b o u h1 h2=>⟨?_,?_⟩)⟩
 · rw[show ad3 w.heap.size (0+i*z+j)=⟨w.heap.size,i*z+j,none⟩ by simp[ad3]]
   rw[World.cell?_alloc_new];exact q1
 · show(x.give w.heap.size none).ow b=none
   simp only[Cx.give];split
   · rfl
   · exact h1
 · have:=World.block_lt_of_cell? _ _ h2
   rw[World.cell?_alloc_lt _ _ _ this];exact h2
theorem ww {cells:Array Value} {z cap:Nat} {es:List D} (h:ElsRd (freeB x) w cells z es) (hz:z≠0) (hcap:es.length≤cap) (cells2:Array Value) (hsz:cells2.size=cap*z)
   (hpre:∀ (m:Nat) v,cells[m]? =some v→cells2[m]? =some v) (ty:TypeId) (o:Option Own) (ho:o≠none) (w0:World) (hw:w0.heap=w.heap) (R:Rel cfg x N s a w):
   Arr (freeB (x.give w.heap.size o)) (w0.alloc (.cells cells2 ty)) w.heap.size 0 cap z es:=by
 refine⟨hz,fun j hj=>⟨⟨cells2[j]'(by omega),?_⟩,?_⟩,h.wid,h.cel,fun i e he j c hj=> ?_⟩
 · rw[← hw,show ad3 w0.heap.size (0+j)=⟨w0.heap.size,j,none⟩ by simp[ad3],World.cell?_alloc_new]
   simp[hsz,hj]
 · rw[← hw,show ad3 w0.heap.size (0+j)=⟨w0.heap.size,j,none⟩ by simp[ad3],World.frozen?_alloc_new]
 · obtain⟨v,q1,q2,_⟩:=h.els i e he j c hj
   refine⟨v,?_,q2.mono (fun b o' u h1 h2=>⟨?_,?_⟩)⟩
   · rw[← hw,show ad3 w0.heap.size (0+i*z+j)=⟨w0.heap.size,i*z+j,none⟩ by simp[ad3],World.cell?_alloc_new]
     exact hpre _ _ q1
   · have hlt:=World.block_lt_of_cell? _ _ h2
     show(x.give w.heap.size o).ow b=none;rw[Cx.give_ne];· exact h1
     simp at hlt;omega
   · have hlt:=World.block_lt_of_cell? _ _ h2
     rw[World.cell?_alloc_lt _ _ _ (by rw[hw];exact hlt)]
     simpa[World.cell?,hw] using h2
theorem sim_lit (R:Rel cfg x N s a w) {o:Oper} {t e:TypeId} {n:Nat} {ps:Array (Nat×Operand)} (ho:o.op= .buildSlice t n ps) {k:Nat} (hd:o.dst=some k) (hk:k<N) (ht:P.underlying t=some (.slice e))
   {z:Nat} (hz:sizeD P e=some z) {zd:D} (hzd:zeroC P e=some zd) {l:List (Nat×IOpd)} (hl:d9 ps.toList=some l) (hz0:z≠0) (hz1:z≤1000) (hn:n≤1000)
   {ds:List (Nat×D)} (hds:parts2 cfg s l=some ds) (hzl:zd.cells.length=z) (hst:zd.storable=true) {es:List D} (hf:fillE z (List.replicate n zd) ds=some es) (own:Bool):
   Goes P cfg x N dep (updG s (put1 (some k) (if n=0 then .d .nilS else if own then .own true z es else .d (.sl es)))) a w o:=by
 obtain⟨g1,g2⟩:=ae1 R hl hds;have hzero:∃ zv,(zeroValue e).run P w= .ok zv w∧Rd (freeB x) w zv zd:=by
   simp only[zeroC,y8] at hzd;obtain⟨zv,⟨i,hi,hz1⟩,hz2⟩:=hzd;exact⟨zv,by simp[zeroValue,typeInfo,hi,hz1],afh hz2⟩
 obtain⟨zv,z1,z2⟩:=hzero;have hzeros:=ElsRd.zeros (n:=n) z2 hst hzl hz0;obtain⟨⟨cells',f1,f2⟩,f3⟩:=aul z (ps.toList.map fun p=>(p.1,a.eval p.2)) ds _ _ es (by simpa using g1) (fun i p d e1 e2=>by
   rw[zg] at e1;cases hp:ps.toList[i]? with
   |none=>rw[hp] at e1;cases e1
   |some p'=>rw[hp] at e1;cases e1;exact g2 i p' d hp e2) hzeros hf
 have hes:es.length=n:=by simpa using f3
 have hrun:(execOp a.eval o).run P w= .ok (.value (.slice (some (ad3 w.heap.size 0)) n n)) (w.alloc (.cells cells' e)):=by
   have hpl:(ps.map fun(i,x)=>(i,a.eval x)).toList=ps.toList.map fun p=>(p.1,a.eval p.2):=by simp
   have hnz:¬ n*z>2 ^ 24:=by
     have:n*z≤1000*1000:=Nat.mul_le_mul hn hz1;omega
   simp only[execOp,ho,Instr.buildSlice,Sem.run_bind,run_underlying ht,Result.andThen_ok,bd hz,hnz,if_false,hpl];by_cases h0:n*z=0
   · have hn0:n=0:=by rcases Nat.mul_eq_zero.1 h0 with h|h<;>omega
     subst hn0;have e0:∀ f:Nat→Value,(Array.range 0).map f= #[]:=fun f=>by simp
     simp only[Nat.zero_mul,e0] at f1;simp only[Nat.zero_mul,if_true,pure_bind,e0,f1];rfl
   · simp only[h0,if_false,Sem.run_bind,z1,Result.andThen_ok,Sem.run_pure,f1]
     rfl
 by_cases hn0:n=0
 · subst hn0
   refine⟨_,_,x.give w.heap.size none,.inl hrun,?_,Fr.alloc _ _⟩;rw[hd,if_pos rfl];exact(R.alloc (.cells cells' e) none).put hk rfl (l:=none) (.d _ _ _ (.nilS _))
 rw[if_neg hn0];cases own
 · refine⟨_,_,x.give w.heap.size none,.inl hrun,?_,Fr.alloc _ _⟩
   rw[hd];refine(R.alloc (.cells cells' e) none).put hk rfl (l:=none) (.d _ _ _ ?_);rw[← hes];exact Rd.sl_of yp f2.wid (els_ptr f2 e R)
 · refine⟨_,_,x.give w.heap.size (some (.at (.slot k))),.inl hrun,?_,Fr.alloc _ _⟩
   rw[hd];refine(R.alloc (.cells cells' e) (some (.at (.slot k)))).putAt hk yt ?_;exact .own _ _ _ _ n z true es yt hes (y7 _) (ww f2 hz0 yp cells' (by rw[f2.size,hes]) (fun _ _ h=>h) e _ yt w rfl R)
theorem ai7 (place:Nat→Option (Nat×Nat)):∀ (ps:List (Nat×Value)) (i:Nat) (cells:Array Value),(∀ (m:Nat) p,ps[m]? =some p→place p.1=some (i+m,1)∧p.2.cells= #[p.2])→i+ps.length≤cells.size→
  ∃ cells',Instr.fill place cells ps=some cells'∧cells'.size=cells.size∧(∀ j,j<i→cells'[j]? =cells[j]?)∧∀ (m:Nat) p,ps[m]? =some p→cells'[i+m]? =some p.2
 | [],i,cells,_,_=>⟨cells,rfl,rfl,fun _ _=>rfl,fun m p h=>by simp at h⟩
 | (j,v)::ps,i,cells,h,hs=>by
  obtain⟨h1,h2⟩:=h 0 (j,v) rfl;simp only[Nat.add_zero] at h1 h2;simp only[List.length_cons] at hs;obtain⟨cells',g1,g2,g3,g4⟩:=ai7 place ps (i+1) (cells.setIfInBounds i v) (fun m p hp=>by
    obtain⟨q1,q2⟩:=h (m+1) p (by simpa using hp)
    exact⟨by rw[q1];congr 2;omega,q2⟩) (by simp;omega)
  refine⟨cells',?_,by simpa using g2,fun i' hi=> ?_,fun m p hp=> ?_⟩
  · have hb:(v.cells.size≠1||decide (i+v.cells.size>cells.size))=false:=by
     rw[h2];simp;omega
    simp only[Instr.fill,h1,hb,zf,if_false,h2];have hsz:i+1≤cells.size:=yp;simpa[hsz] using g1
  · rw[g3 i' yp,Array.getElem?_setIfInBounds_ne yp]
  · cases m with
    | zero=>
     simp only[List.getElem?_cons_zero,Option.some.injEq] at hp;subst hp;have hsz:i<cells.size:=yp;rw[Nat.add_zero,g3 i yp,Array.getElem?_setIfInBounds,if_pos rfl,if_pos hsz]
    | succ m=>
     rw[show i+(m+1)=i+1+m by omega]
     exact g4 m p (by simpa using hp)
theorem fill_one (ps:List (Nat×Value)) (i:Nat) (cells:Array Value) (h:∀ (m:Nat) p,ps[m]? =some p→p.1=i+m∧p.2.cells= #[p.2]) (hs:i+ps.length≤cells.size):
  ∃ cells',Instr.fill (fun i=>some (i*1,1)) cells ps=some cells'∧cells'.size=cells.size∧(∀ j,j<i→cells'[j]? =cells[j]?)∧∀ (m:Nat) p,ps[m]? =some p→cells'[i+m]? =some p.2:=
 ai7 _ ps i cells (fun m p hp=>⟨by rw[(h m p hp).1,Nat.mul_one],(h m p hp).2⟩) hs
theorem ayj (R:Rel cfg x N s a w):∀ {ps:List (Nat×Operand)} {l:List (Nat×IOpd)} (_:d9 ps=some l) {i:Nat} {ys:List V} (_:cz cfg s i l=some ys),
  ps.length=ys.length∧∀ (m:Nat) p,ps[m]? =some p→∃ d k o,ys[m]? =some (.ref d k o)∧p.1=i+m∧RdV x s (conc x a w) w none (a.eval p.2) (.ref d k o)
 | [],l,h,i,ys,h'=>by cases h;cases h';simp
 | (j,X)::ps,l,h,i,ys,h'=>by
  unfold d9 at h;split at h
  · rename_i ix l' h1 h2
    cases h;unfold cz at h';split at h'
    · rename_i d k o h3
      split at h'
      · rename_i hj
        subst hj;simp only[yw] at h';obtain⟨ys',h4,rfl⟩:=h';obtain⟨g1,g2⟩:=ayj R h2 h4;refine⟨by simp[g1],fun m p hp=> ?_⟩
        cases m with
        | zero=>
         simp only[List.getElem?_cons_zero,Option.some.injEq] at hp;subst hp;obtain⟨l0,hr,_⟩:=a6 R h1 h3;exact⟨d,k,o,rfl,rfl,hr.reloc rfl⟩
        | succ m=>
         obtain⟨d',k',o',q1,q2,q3⟩:=g2 m p (by simpa using hp)
         exact⟨d',k',o',by simpa using q1,by omega,q3⟩
      · cases h'
    · cases h'
  · cases h
theorem sim_vec (R:Rel cfg x N s a w) {o:Oper} {t e:TypeId} {n:Nat} {ps:Array (Nat×Operand)} (ho:o.op= .buildSlice t n ps) {k:Nat} (hd:o.dst=some k) (hk:k<N) (ht:P.underlying t=some (.slice e))
  (hz:sizeD P e=some 1) {zd:D} (hzd:zeroC P e=some zd) {l:List (Nat×IOpd)} (hl:d9 ps.toList=some l) (hn:n≤1000)
  {y0:V} {ys:List V} (hr:cz cfg s 0 l=some (y0::ys)) (hy:n=(y0::ys).length):
  Goes P cfg x N dep (updG s (put1 (some k) (.vec (y0::ys)))) a w o:=by
 obtain⟨g1,g2⟩:=ayj R hl hr;have hzero:∃ zv,(zeroValue e).run P w= .ok zv w:=by
  simp only[zeroC,y8] at hzd;obtain⟨zv,⟨i,hi,hz1⟩,hz2⟩:=hzd;exact⟨zv,by simp[zeroValue,typeInfo,hi,hz1]⟩
 obtain⟨zv,z1⟩:=hzero;have hpar:∀ (m:Nat) p,(ps.toList.map fun p=>(p.1,a.eval p.2))[m]? =some p→∃ d k o,(y0::ys)[m]? =some (.ref d k o)∧p.1=0+m∧p.2= .pointer (some (ad3 (x.ad d k) o))∧(s (.cell ⟨d,k,0⟩)).isSome:=fun m p hp=>by
  rw[zg] at hp;cases hq:ps.toList[m]? with
  |none=>rw[hq] at hp;cases hp
  | some q=>
    rw[hq] at hp;cases hp;obtain⟨d,k,o,q1,q2,q3⟩:=g2 m q hq;generalize hv:a.eval q.2=v at q3;cases q3 with
    |ref _ _ _ _ hs=>exact⟨d,k,o,q1,q2,hv,hs⟩
 obtain⟨cells',f1,f2,_,f4⟩:=fill_one (ps.toList.map fun p=>(p.1,a.eval p.2)) 0 ((Array.range (n*1)).map (zv.cells[· % zv.cells.size]!)) (fun m p hp=>by
  obtain⟨d,k,o,_,q2,q3,_⟩:=hpar m p hp;exact⟨q2,by rw[q3];rfl⟩) (by simp only[yz,Array.size_map,Array.size_range,g1,hy];omega)
 have hn0:n≠0:=by rw[hy];simp
 have hrun:(execOp a.eval o).run P w= .ok (.value (.slice (some (ad3 w.heap.size 0)) n n)) (w.alloc (.cells cells' e)):=by
  have hpl:(ps.map fun(i,x)=>(i,a.eval x)).toList=ps.toList.map fun p=>(p.1,a.eval p.2):=by simp
  have hnz:¬ n*1>2 ^ 24:=yp;have h0:¬ n*1=0:=yp;simp only[execOp,ho,Instr.buildSlice,Sem.run_bind,run_underlying ht,Result.andThen_ok,bd hz,hnz,if_false,hpl];simp only[h0,if_false,Sem.run_bind,z1,Result.andThen_ok,Sem.run_pure,f1];rfl
 refine⟨_,_,x.give w.heap.size none,.inl hrun,?_,Fr.alloc _ _⟩;rw[hd];refine(R.alloc (.cells cells' e) none).put hk rfl (l:=none) ?_;have hm:∀ (i:Nat) y,(y0::ys)[i]? =some y→∃ d k o,y= .ref d k o∧cells'[i]? =some (.pointer (some (ad3 (x.ad d k) o)))∧(s (.cell ⟨d,k,0⟩)).isSome:=fun i y hi=>by
  have hlt:=(y4.1 hi).1;have hlt':i<(ps.toList.map fun p=>(p.1,a.eval p.2)).length:=by rw[yz,g1];exact hlt
  obtain⟨d,k,o,q1,q2,q3,q4⟩:=hpar i _ (yy hlt');rw[hi] at q1;cases q1;have:=f4 i _ (yy hlt');rw[Nat.zero_add,q3] at this;exact⟨d,k,o,rfl,this,q4⟩
 have hfin:RdV (x.give w.heap.size none) s (conc (x.give w.heap.size none) a (w.alloc (.cells cells' e))) (w.alloc (.cells cells' e)) none (.slice (some (ad3 w.heap.size 0)) (y0::ys).length n) (.vec (y0::ys)):=by
  refine .vec _ w.heap.size 0 n (y0::ys) (fun i=>(cells'[i]?).getD undef) yp (fun i y hi=> ?_) (fun i y hi=> ?_)
  · obtain⟨d,k,o,_,q2,_⟩:=hm i y hi
    refine⟨by simp[freeB],?_⟩
    rw[show ad3 w.heap.size (0+i)=⟨w.heap.size,i,none⟩ by simp[ad3],World.cell?_alloc_new,q2]
    rfl
  · obtain⟨d,k,o,rfl,q2,q3⟩:=hm i y hi
    rw[q2];exact .ref _ d k o q3
 rw[← hy] at hfin;exact hfin
theorem mz:∀ (fs:List Field) (pl:List (Nat×Nat)),m3 P fs=some pl→fs.mapM (fun f=>(P.info? f.type).map fun i=>(f.offset,i.size))=some pl
 | [],pl,h=>by cases h;rfl
 | f::fs,pl,h=>by
  unfold m3 at h;split at h
  · rename_i n l h1 h2
    cases h;simp only[sizeD,yw] at h1;obtain⟨i,hi,rfl⟩:=h1;simp[List.mapM_cons,hi,mz fs l h2]
  · cases h
theorem t8 (R:Rel cfg x N s a w) (pl:List (Nat×Nat)):∀ {ps:List (Nat×Operand)} {l:List (Nat×Nat×IOpd)} (_:jx pl ps=some l) {ds:List (Nat×Nat×D)} (_:c8 cfg s l=some ds),
  ps.length=ds.length∧∀ (i:Nat) p d,ps[i]? =some p→ds[i]? =some d→pl[p.1]? =some (d.1,d.2.1)∧Rd (freeB x) w (a.eval p.2) d.2.2
 | [],l,h,ds,h'=>by cases h;cases h';simp
 | (i,X)::ps,l,h,ds,h'=>by
  unfold jx at h;split at h
  · rename_i o n ix l' h0 h1 h2
    cases h;unfold c8 at h';split at h'
    · rename_i y ys h3 h4
      cases h';obtain⟨g1,g2⟩:=t8 R pl h2 h4;refine⟨by simp[g1],fun j p d e1 e2=> ?_⟩
      cases j with
      |zero=>simp at e1 e2;subst e1;subst e2;exact⟨h0,qu R h1 h3⟩
      |succ j=>simp at e1 e2;exact g2 j p d e1 e2
    · cases h'
  · cases h
theorem axy (R:Rel cfg x N s a w) {o:Oper} {t:TypeId} {ps:Array (Nat×Operand)} (ho:o.op= .build t ps) {k:Nat} (hd:o.dst=some k) (hk:k<N) {fs:Array Field} (ht:P.underlying t=some (.struct fs))
  {zs:List D} (hzd:zeroD P t=some (.agg zs)) {pl:List (Nat×Nat)} (hpl:m3 P fs.toList=some pl) {l:List (Nat×Nat×IOpd)} (hl:jx pl ps.toList=some l)
  {ds:List (Nat×Nat×D)} (hds:c8 cfg s l=some ds) {cs:List D} (hf:fillD zs ds=some cs):Goes P cfg x N dep (updG s (put1 o.dst (.d (.agg cs)))) a w o:=by
 obtain⟨g1,g2⟩:=t8 R pl hl hds;simp only[zeroD,y8] at hzd;obtain⟨zv,⟨i,hi,hz1⟩,hz2⟩:=hzd;have hzr:Rd (freeB x) w zv (.agg zs):=ja hz2;have hagg:∃ c,zv= .agg c:=by cases hzr;exact⟨_,rfl⟩
 obtain⟨zc,rfl⟩:=hagg;obtain⟨cells',f1,f2⟩:=ai6 (w:=w) (F:=freeB x) (fun i=>pl.toArray[i]?) (ps.toList.map fun p=>(p.1,a.eval p.2)) ds zc zs cs (by simpa using g1) (fun i p d e1 e2=>by
  rw[zg] at e1;cases hp:ps.toList[i]? with
  |none=>rw[hp] at e1;cases e1
  | some p'=>
   rw[hp] at e1;cases e1;obtain⟨q1,q2⟩:=g2 i p' d hp e2;exact⟨by simpa using q1,q2⟩) (CellsRd.of_agg hzr) hf
 refine av R hd hk (v:= .agg cells') ?_ f2.agg;have hb:P.built t (ps.map fun(i,x)=>(i,a.eval x)).toList=some cells':=by
  unfold Program.built;have hpp:(ps.map fun(i,x)=>(i,a.eval x)).toList=ps.toList.map fun p=>(p.1,a.eval p.2):=by simp
  simp only[hi,ht,hz1,mz _ _ hpl,hpp];exact f1
 simp[execOp,ho,run_build w t _ cells' hb]
def PartOk (x x':Cx) (w:World) (k:Nat) (v:Value):V→Prop
 | .own _ z es=>∃ b o cap,v= .slice (some (ad3 b o)) es.length cap∧es.length≤cap∧x.ow b≠some (.at (.slot k))∧x'.ow b=some (.at (.slot k))∧Arr (freeB x') w b o cap z es
 | .d c=>Rd (freeB x') w v c∧c.isCell=true
 |_=>False
theorem Fr.frees {x x':Cx} {w:World} {dep:Nat} (F:Fr dep x x' w w) {b o:Nat} {u:Value} (h:x.ow b=none) (hu:w.cell? (ad3 b o)=some u):x'.ow b=none∧w.cell? (ad3 b o)=some u:=by
 have hlt:=World.block_lt_of_cell? _ _ hu;exact⟨(F.same b hlt (.inl h)).2.trans h,hu⟩
theorem uy {k:Nat} {pl:List (Nat×Nat)}:∀ {ps:List (Nat×Operand)} {l:List (Nat×Nat×IOpd)} (_:jx pl ps=some l) {i:Nat} {s:Get} {x:Cx} (_:Rel cfg x N s a w) {r:List V×List (Loc×V)} (_:recOf cfg k s i l=some r),
  ∃ x',Rel cfg x' N (updG s r.2) a w∧Fr dep x x' w w∧(∀ b,x.ow b=some (.at (.slot k))→x'.ow b=some (.at (.slot k)))∧ps.length=r.1.length∧
    (∀ (m:Nat) p y,ps[m]? =some p→r.1[m]? =some y→pl[p.1]? =some (i+m,1)∧PartOk x x' w k (a.eval p.2) y)∧
    ∀ (m m':Nat) p p' y y' (q q':Addr) (L C L' C':Nat),m≠m'→ps[m]? =some p→ps[m']? =some p'→r.1[m]? =some y→r.1[m']? =some y'→y.isOwn=true→y'.isOwn=true→
      a.eval p.2= .slice (some q) L C→a.eval p'.2= .slice (some q') L' C'→q.block≠q'.block
 | [],l,h,i,s,x,R,r,h'=>by
  cases h;cases h';exact⟨x,R,.refl _ _ _,fun _ h=>h,rfl,fun m p y h=>by simp at h,fun m m' p p' y y' q q' L C L' C' _ h=>by simp at h⟩
 | (f,X)::ps,l,h,i,s,x,R,r,h'=>by
  unfold jx at h;split at h
  · rename_i o n ix l' h0 h1 h2
    cases h;unfold recOf at h';split at h'
    · rename_i hon
      obtain⟨rfl,rfl⟩:=hon;split at h'
      · rename_i j nw z es hv
        split at h'
        · cases h'
        · rename_i hjk
          simp only[yw] at h';obtain⟨⟨ys,u⟩,h3,rfl⟩:=h';obtain⟨l0,hr,hl0⟩:=a6 R h1 hv;obtain⟨hl1,rfl⟩:=hl0 j rfl;have he:s (.slot j)=some (.own nw z es):=hv;obtain⟨b,o',cap,q1,q2,q3,q4⟩:=R.own_at he;have R0:=R.forget (l0:= .slot j) (by rw[he];rfl)
          have R1:=R0.relabel q2 (fun v hv'=>by simp only[a7,if_pos] at hv';cases hv';rfl) (fun k' e=>by cases e;exact R.slotN _ _ he) (.slot k)
          have hjk':x.ow b≠some (.at (.slot k)):=fun e=>by rw[q2] at e;cases e;exact hjk rfl
          have F1:Fr dep x (x.give b (some (.at (.slot k)))) w w:=Fr.give q2 _;obtain⟨x',R2,F2,g1,g2,g3,g4⟩:=uy h2 R1 h3;have hkeep:∀ b',x.ow b'=some (.at (.slot k))→(x.give b (some (.at (.slot k)))).ow b'=some (.at (.slot k)):=fun b' hb=>by
            rw[Cx.give_ne _ _ (fun e=>hjk' (by rw[← e];exact hb))];exact hb
          have hF:=F1.trans F2;have hev:a.eval (.tmp j)= .slice (some (ad3 b o')) es.length cap:=by simpa[conc,Act.eval] using q1
          have tl:∀ (m:Nat) p y,ps[m]? =some p→ys[m]? =some y→pl[p.1]? =some (o+1+m,1)∧PartOk x x' w k (a.eval p.2) y:=fun m p y e1 e2=>by
            obtain⟨t1,t2⟩:=g3 m p y e1 e2;refine⟨t1,?_⟩;cases y with
            | own nw' z' es'=>
             obtain⟨b2,o2,c2,w1,w2,w3,w4,w5⟩:=t2;exact⟨b2,o2,c2,w1,w2,fun e=>w3 (hkeep _ e),w4,w5⟩
            |d c=>exact t2
            |_=>exact t2
          refine⟨x',?_,hF,fun b' hb=>g1 _ (hkeep _ hb),by simp[g2],fun m p y e1 e2=> ?_,?_⟩
          · exact R2
          · cases m with
            | zero=>
             simp only[List.getElem?_cons_zero,Option.some.injEq] at e1 e2;subst e1;subst e2;exact⟨h0,b,o',cap,hev,q3,hjk',g1 _ yt,q4.mono (fun b o u hb hu=>hF.frees hb hu) (fun _ _ h=>h) (fun _ _ _ h=>h)⟩
            | succ m=>
             have:=tl m p y (by simpa using e1) (by simpa using e2)
             rw[show o+(m+1)=o+1+m by omega]
             exact this
          · have hd0:∀ (m:Nat) p' y' (q':Addr) (L' C':Nat),ps[m]? =some p'→ys[m]? =some y'→y'.isOwn=true→a.eval p'.2= .slice (some q') L' C'→b≠q'.block:=fun m p' y' q' L' C' e1 e2 e3 e4 e5=>by
             obtain⟨_,t2⟩:=g3 m p' y' e1 e2;cases y' with
             | own nw' z' es'=>
              obtain⟨b2,o2,c2,w1,w2,w3,w4,w5⟩:=t2;rw[w1] at e4;cases e4;subst e5;exact w3 yt
             |rcd=>exact t2
             |_=>simp[V.isOwn] at e3
            intro m m' p p' y y' q q' L C L' C' hne e1 e2 e3 e4 e5 e6 e7 e8;cases m with
            | zero=>
             cases m' with
             |zero=>exact absurd rfl hne
             | succ m'=>
              simp only[List.getElem?_cons_zero,Option.some.injEq] at e1;subst e1;rw[hev] at e7;cases e7;exact hd0 m' p' y' q' L' C' (by simpa using e2) (by simpa using e4) e6 e8
            | succ m=>
             cases m' with
             | zero=>
              simp only[List.getElem?_cons_zero,Option.some.injEq] at e2;subst e2;rw[hev] at e8;cases e8;exact fun e=>hd0 m p y q L C (by simpa using e1) (by simpa using e3) e5 e7 e.symm
             |succ m'=>exact g4 m m' p p' y y' q q' L C L' C' yp (by simpa using e1) (by simpa using e2) (by simpa using e3) (by simpa using e4) e5 e6 e7 e8
      · rename_i y0 _ hv
        split at h'
        · rename_i hcell
          simp only[yw] at h';obtain⟨⟨ys,u⟩,h3,rfl⟩:=h';have hr:=val_d R h1 hv;obtain⟨x',R2,F2,g1,g2,g3,g4⟩:=uy h2 R h3;refine⟨x',R2,F2,g1,by simp[g2],fun m p y e1 e2=> ?_,fun m m' p p' y y' q q' L C L' C' hne e1 e2 e3 e4 e5 e6 e7 e8=> ?_⟩
          · cases m with
            | zero=>
             simp only[List.getElem?_cons_zero,Option.some.injEq] at e1 e2;subst e1;subst e2;exact⟨h0,hr.can.mono (fun b o u hb hu=>F2.frees hb hu),D.can_isCell hcell⟩
            | succ m=>
             have:=g3 m p y (by simpa using e1) (by simpa using e2)
             rw[show o+(m+1)=o+1+m by omega]
             exact this
          · cases m with
            |zero=>simp only[List.getElem?_cons_zero,Option.some.injEq] at e3;subst e3;cases e5
            | succ m=>
             cases m' with
             |zero=>simp only[List.getElem?_cons_zero,Option.some.injEq] at e4;subst e4;cases e6
             |succ m'=>exact g4 m m' p p' y y' q q' L C L' C' yp (by simpa using e1) (by simpa using e2) (by simpa using e3) (by simpa using e4) e5 e6 e7 e8
        · cases h'
      · cases h'
    · cases h'
  · cases h
theorem avi (R:Rel cfg x N s a w) {o:Oper} {t:TypeId} {ps:Array (Nat×Operand)} (ho:o.op= .build t ps) {k:Nat} (hd:o.dst=some k) (hk:k<N) {fs:Array Field} (ht:P.underlying t=some (.struct fs))
   {zs:List D} (hzd:zeroD P t=some (.agg zs)) {pl:List (Nat×Nat)} (hpl:m3 P fs.toList=some pl) {l:List (Nat×Nat×IOpd)} (hl:jx pl ps.toList=some l)
   {r:List V×List (Loc×V)} (hr:recOf cfg k s 0 l=some r) (hlen:r.1.length=zs.length):Goes P cfg x N dep (updG s (r.2++[(.slot k,.rcd r.1)])) a w o:=by
 obtain⟨x',R',F,_,g2,g3,g4⟩:=uy (dep:=dep) hl R hr;simp only[zeroD,y8] at hzd;obtain⟨zv,⟨i,hi,hz1⟩,hz2⟩:=hzd;have hzr:Rd (freeB x) w zv (.agg zs):=ja hz2;have hagg:∃ c,zv= .agg c∧c.size=zs.length:=by
   cases hzr with
   |agg vs cs hl hc h=>exact⟨_,rfl,by simpa using hl⟩
 obtain⟨zc,rfl,hzc⟩:=hagg;have hone:∀ (m:Nat) p,(ps.toList.map fun p=>(p.1,a.eval p.2))[m]? =some p→pl.toArray[p.1]? =some (0+m,1)∧p.2.cells= #[p.2]:=fun m p e=>by
   rw[zg] at e;cases hp:ps.toList[m]? with
   |none=>rw[hp] at e;cases e
   | some p'=>
     rw[hp] at e;cases e;have hm:m<r.1.length:=by rw[← g2];exact(y4.1 hp).1
     obtain⟨q1,q2⟩:=g3 m p' _ hp (yy hm);refine⟨by simpa using q1,?_⟩
     cases hy:r.1[m] with
     | own nw z es=>
      rw[hy] at q2;obtain⟨b,o2,c2,w1,_⟩:=q2;simp only[w1];rfl
     | d c=>
      rw[hy] at q2;have:=q2.1.oneCell q2.2;simp only;cases hv:a.eval p'.2<;>first|rfl| (rw[hv] at this;simp[Value.oneCell'] at this)
     |_=>rw[hy] at q2;exact q2.elim
 obtain⟨cells',f1,f2,_,f4⟩:=ai7 (fun i=>pl.toArray[i]?) (ps.toList.map fun p=>(p.1,a.eval p.2)) 0 zc hone (by
   rw[yz,g2,hlen,hzc];omega)
 have hcells:cells'=(ps.toList.map fun p=>a.eval p.2).toArray:=by
   apply Array.ext';apply List.ext_getElem?;intro m;by_cases hm:m<ps.toList.length
   · have:=f4 m _ (by rw[zg,yy hm];rfl)
     rw[Nat.zero_add] at this;rw[Array.getElem?_toList,this,zg,yy hm];rfl
   · rw[aar (by simp[f2,hzc,← hlen,← g2];simpa using hm),aar (by simpa using hm)]
 have hb:P.built t (ps.map fun(i,x)=>(i,a.eval x)).toList=some cells':=by
   unfold Program.built;have hpp:(ps.map fun(i,x)=>(i,a.eval x)).toList=ps.toList.map fun p=>(p.1,a.eval p.2):=by simp
   simp only[hi,ht,hz1,mz _ _ hpl,hpp];exact f1
 have hrun:(execOp a.eval o).run P w= .ok (.value (.agg cells')) w:=by simp[execOp,ho,run_build w t _ cells' hb]
 refine⟨_,w,x',.inl hrun,?_,F⟩;rw[bm,hd];refine R'.putAt hk yt ?_;rw[hcells];refine .rcd _ _ _ (by simpa using g2) (fun m v y e1 e2=> ?_) (fun m m' p q L C L' C' n n' z z' es es' hne e1 e2 e3 e4=> ?_)
 · rw[zg] at e1
   cases hp:ps.toList[m]? with
   |none=>rw[hp] at e1;cases e1
   | some p'=>
     rw[hp] at e1;cases e1;obtain⟨_,q2⟩:=g3 m p' y hp e2;cases y with
     | own nw z es=>
      obtain⟨b,o2,c2,w1,w2,_,w4,w5⟩:=q2;simp only[w1];exact .own _ b o2 _ c2 z nw es w4 rfl w2 w5
     |d c=>exact .d _ _ _ q2.1
     |_=>exact q2.elim
 · rw[zg] at e3 e4
   cases hp:ps.toList[m]? with
   |none=>rw[hp] at e3;cases e3
   | some p1=>
     cases hp':ps.toList[m']? with
     |none=>rw[hp'] at e4;cases e4
     | some p2=>
      rw[hp] at e3;rw[hp'] at e4;exact g4 m m' p1 p2 _ _ p q L C L' C' hne hp hp' e1 e2 rfl rfl (by simpa using e3) (by simpa using e4)
theorem avj (R:Rel cfg x N s a w) {o:Oper} {t e:TypeId} {n:Nat} {ps:Array (Nat×Operand)} (ho:o.op= .build t ps) {k:Nat} (hd:o.dst=some k) (hk:k<N) (ht:P.underlying t=some (.array n e))
  {zs:List D} (hzd:zeroD P t=some (.agg zs)) {z:Nat} (hz:sizeD P e=some z) {l:List (Nat×IOpd)} (hl:d9 ps.toList=some l)
  {ds:List (Nat×Nat×D)} (hds:c8 cfg s (l.map fun p=>(p.1*z,z,p.2))=some ds) {cs:List D} (hf:fillD zs ds=some cs):Goes P cfg x N dep (updG s (put1 o.dst (.d (.agg cs)))) a w o:=by
 have key:∀ {ps:List (Nat×Operand)} {l:List (Nat×IOpd)},d9 ps=some l→∀ {ds:List (Nat×Nat×D)},c8 cfg s (l.map fun p=>(p.1*z,z,p.2))=some ds→
   ps.length=ds.length∧∀ (i:Nat) p d,ps[i]? =some p→ds[i]? =some d→(p.1*z,z)=(d.1,d.2.1)∧Rd (freeB x) w (a.eval p.2) d.2.2:=by
  intro ps
  induction ps with
  |nil=>intro l h ds h';cases h;cases h';simp
  | cons q ps ih=>
   obtain⟨i,X⟩:=q;intro l h ds h';unfold d9 at h;split at h
   · rename_i ix l' h1 h2
     cases h;simp only[List.map_cons] at h';unfold c8 at h';split at h'
     · rename_i y ys h3 h4
       cases h';obtain⟨g1,g2⟩:=ih h2 h4;refine⟨by simp[g1],fun j p d e1 e2=> ?_⟩
       cases j with
       |zero=>simp at e1 e2;subst e1;subst e2;exact⟨rfl,qu R h1 h3⟩
       |succ j=>simp at e1 e2;exact g2 j p d e1 e2
     · cases h'
   · cases h
 obtain⟨g1,g2⟩:=key hl hds;simp only[zeroD,y8] at hzd;obtain⟨zv,⟨i,hi,hz1⟩,hz2⟩:=hzd;have hzr:Rd (freeB x) w zv (.agg zs):=ja hz2;have hagg:∃ c,zv= .agg c:=by cases hzr;exact⟨_,rfl⟩
 obtain⟨zc,rfl⟩:=hagg;obtain⟨cells',f1,f2⟩:=ai6 (w:=w) (F:=freeB x) (fun i=>some (i*z,z)) (ps.toList.map fun p=>(p.1,a.eval p.2)) ds zc zs cs (by simpa using g1) (fun i p d e1 e2=>by
  rw[zg] at e1;cases hp:ps.toList[i]? with
  |none=>rw[hp] at e1;cases e1
  | some p'=>
   rw[hp] at e1;cases e1;obtain⟨q1,q2⟩:=g2 i p' d hp e2;exact⟨by rw[← q1],q2⟩) (CellsRd.of_agg hzr) hf
 refine av R hd hk (v:= .agg cells') ?_ f2.agg;simp only[sizeD,yw] at hz;obtain⟨ie,hie,hz⟩:=hz;have hb:P.built t (ps.map fun(i,x)=>(i,a.eval x)).toList=some cells':=by
  unfold Program.built;have hpp:(ps.map fun(i,x)=>(i,a.eval x)).toList=ps.toList.map fun p=>(p.1,a.eval p.2):=by simp
  simp only[hi,ht,hz1,hie,hz,hpp];exact f1
 simp[execOp,ho,run_build w t _ cells' hb]
end
end Go.Ev
namespace Go.Ev
open Go
section
variable {P:Program} {w:World}
structure Src (P:Program) (w:World) (size:Nat) (x:Value) (n:Nat) (news:List Value):Prop where
 len:∀ w',(Builtin.lenOf x).run P w'= .ok n w'
 cells:∀ w',w'.heap=w.heap→(Builtin.firstCells size n x).run P w'= .ok news.toArray w'
 num:news.length=n*size
 one:∀ v∈news,v.oneCell'=true
theorem run_append_room2 {t u ty e:TypeId} {i:TypeInfo} {d:TypeDesc} (ht:P.underlying t=some (.slice e)) (hu:P.underlying u=some d) (hd:∀ k,d≠ .int k) (hi:P.info? e=some i)
  {b o sLen sCap n:Nat} {y:Value} {news:List Value} (S:Src P w i.size y n news) (hr:sLen+n≤sCap)
  (hcell:∀ j,j<news.length→(w.cell? ⟨b,o+sLen*i.size+j,none⟩).isSome=true) (hfro:∀ j,j<news.length→w.frozen? ⟨b,o+sLen*i.size+j,none⟩=false):
  (Builtin.append_ #[t,u] ty #[.slice (some (ad3 b o)) sLen sCap,y]).run P w= .ok (.slice (some (ad3 b o)) (sLen+n) sCap) (w.setCells b (o+sLen*i.size) news):=by
 have hz:(match d with| .int _=>true|_=>false)=false:=by cases d<;>first|rfl|exact absurd rfl (hd _)
 have hst:=run_storeCells_cells (P:=P) b (o+sLen*i.size) news 0 w (by simpa using hcell) (by simpa using hfro) S.one
 have hc:=S.cells w rfl;have hl:=S.len w;simp only[Nat.add_zero] at hst;simp only[Builtin.append_,List.getElem?_toArray,List.getElem?_cons_zero,List.getElem?_cons_succ,Sem.run_bind,run_underlying ht,run_underlying hu,Result.andThen_ok,sizeOf,typeInfo,run_program,hi,Sem.run_pure,hz,
  zf,if_false,hl,hr,if_true,aa0,hc,b8]
 rw[hst];rfl
theorem run_append_grow2 {t u ty e:TypeId} {i:TypeInfo} {z:Value} {d:TypeDesc} (ht:P.underlying t=some (.slice e)) (hu:P.underlying u=some d) (hd:∀ k,d≠ .int k) (hi:P.info? e=some i) (hz:i.zero=some z)
  {base:Option Addr} {sLen sCap n:Nat} {y:Value} {olds news:List Value} (S:Src P w i.size y n news) (hr:sCap<sLen+n) (hb0:i.bytes≠0) (h47:(sLen+n)*i.bytes≤140737488355328)
  (hold:∀ w',w'.heap=w.heap→(Builtin.firstCells i.size sLen (.slice base sLen sCap)).run P w'= .ok olds.toArray w'):
  (Builtin.append_ #[t,u] ty #[.slice base sLen sCap,y]).run P w=
   .ok (.slice (some ⟨w.heap.size,0,none⟩) (sLen+n) (grownCap w (sLen+n) sCap e)) (w.drew.alloc (.cells (olds.toArray++news.toArray++Builtin.zeroCells z.cells (grownCap w (sLen+n) sCap e-(sLen+n))) e)):=by
 have hzz:(match d with| .int _=>true|_=>false)=false:=by cases d<;>first|rfl|exact absurd rfl (hd _)
 have hn:¬ (sLen+n≤sCap):=yp;have h48:=growslice_fits hr h47;have h48':¬ (Builtin.nextslicecap (sLen+n) sCap*i.bytes>2 ^ 48):=by
  have:(2:Nat) ^ 48=281474976710656:=yu;omega
 have hl:=S.len w;have hc:=S.cells w.drew rfl;have ho:=hold w.drew rfl;simp only[Builtin.append_,List.getElem?_toArray,List.getElem?_cons_zero,List.getElem?_cons_succ,Sem.run_bind,run_underlying ht,run_underlying hu,Result.andThen_ok,sizeOf,typeInfo,run_program,hi,Sem.run_pure,hzz,
  zf,if_false,hl,hn,aa0,if_true,false_or,hb0,and_false,h48',run_choose,Question.forced,run_askRoom,zeroValue,hz]
 rw[show({w with drawn:=w.drawn+1}:World)=w.drew from rfl]
 simp only[ho,Result.andThen_ok,hc];rfl
theorem zeroCells_size (zs:Array Value) (n:Nat):(Builtin.zeroCells zs n).size=n*zs.size:=by simp[Builtin.zeroCells]
end
section
variable {P:Program} {cfg:Cfg} {x:Cx} {N dep:Nat} {s:Get} {a:Act} {w:World}
theorem i7 {z:Nat}:∀ {es:List D},allZ z es=true→∀ e∈es,e.cells.length=z
 | [],_,e,he=>by simp at he
 | e'::r,h,e,he=>by
  simp only[allZ,ze,zt] at h;rcases zr.1 he with rfl|he
  · exact h.1
  · exact i7 h.2 e he
theorem m8 {F:Nat→Prop} (z:Nat) (f:Nat→Option Value):∀ (es:List D) (i0:Nat),(∀ e∈es,e.cells.length=z)→
  (∀ (i:Nat) e,es[i]? =some e→∀ (j:Nat) c,e.cells[j]? =some c→∃ v,f ((i0+i)*z+j)=some v∧Rd F w v c∧v.oneCell'=true)→
  ∃ news:List Value,news.length=es.length*z∧(∀ (m:Nat) v,news[m]? =some v→f (i0*z+m)=some v∧v.oneCell'=true)∧
    ∀ (i:Nat) e,es[i]? =some e→∀ (j:Nat) c,e.cells[j]? =some c→∃ v,news[i*z+j]? =some v∧Rd F w v c∧v.oneCell'=true
 | [],i0,_,_=>⟨[],by simp,by simp,by simp⟩
 | e::es,i0,hw,h=>by
  obtain⟨n1,a1,a2,a3⟩:=m8 z f es (i0+1) (fun e he=>hw e (by simp[he])) (fun i e he j c hj=>by
    obtain⟨v,q1,q2⟩:=h (i+1) e (by simpa using he) j c hj
    exact⟨v,by rw[show i0+1+i=i0+(i+1) by omega];exact q1,q2⟩)
  have he:e.cells.length=z:=hw e yt;have h0:∀ (j:Nat) c,e.cells[j]? =some c→∃ v,f (i0*z+j)=some v∧Rd F w v c∧v.oneCell'=true:=fun j c hj=>by
    obtain⟨v,q1,q2⟩:=h 0 e rfl j c hj;exact⟨v,by simpa using q1,q2⟩
  have hl:∀ j,∃ v,∀ c,e.cells[j]? =some c→f (i0*z+j)=some v∧Rd F w v c∧v.oneCell'=true:=fun j=>by
    cases hc:e.cells[j]? with
    |none=>exact⟨undef,fun c h=>by cases h⟩
    |some c=>obtain⟨v,q⟩:=h0 j c hc;exact⟨v,fun c' h=>by cases h;exact q⟩
  refine⟨(List.range z).map (fun j=>(hl j).choose)++n1,by simp[a1,aaf];omega,fun m v hm=> ?_,fun i e' he' j c hj=> ?_⟩
  · rw[List.getElem?_append] at hm
    split at hm
    · rename_i hlt
      have hmz:m<z:=by simpa using hlt
      rw[zg,List.getElem?_range hmz] at hm;cases hm;have hc:e.cells[m]? =some (e.cells[m]'(by omega)):=yy _
      exact⟨((hl m).choose_spec _ hc).1,((hl m).choose_spec _ hc).2.2⟩
    · rename_i hlt
      have hmz:z≤m:=by simpa using hlt
      obtain⟨q1,q2⟩:=a2 _ v hm;refine⟨?_,q2⟩;rw[← q1]
      congr 1
      simp only[yz,List.length_range,aaf];omega
  · cases i with
    | zero=>
      simp at he';subst he';have hjz:j<z:=by rw[← he];exact(y4.1 hj).1
      refine⟨(hl j).choose,?_,((hl j).choose_spec c hj).2⟩;rw[Nat.zero_mul,Nat.zero_add,aag (by simpa using hjz),zg,List.getElem?_range hjz]
      rfl
    | succ i=>
      obtain⟨v,q1,q2⟩:=a3 i e' (by simpa using he') j c hj
      refine⟨v,?_,q2⟩;rw[List.getElem?_append_right (by simp[aaf];omega),← q1]
      congr 1
      simp[aaf];omega
theorem wz (R:Rel cfg x N s a w) {X:Operand} {p:IOpd} (hX:cOpd X=some p) {y:V} (hy:val cfg s p=some y) {ys:List D} (hc:cont s y=some ys) {z:Nat} (hz:allZ z ys=true):
   ∃ news,Src P w z (a.eval X) ys.length news∧(∀ (i:Nat) e,ys[i]? =some e→∀ (j:Nat) c,e.cells[j]? =some c→c.isCell=true∧∃ v,news[i*z+j]? =some v∧Rd (freeB x) w v c∧v.oneCell'=true)∧
     ∃ ad cap,a.eval X= .slice ad ys.length cap∧(ad=none→ys=[])∧∀ a0,ad=some a0→∀ (m:Nat) v,news[m]? =some v→w.cell? (a0.add m)=some v:=by
 obtain⟨l0,hr,_⟩:=a6 R hX hy;generalize a.eval X=v at hr;have key:∀ b o cap,v= .slice (some (ad3 b o)) ys.length cap→(∀ (i:Nat) e,ys[i]? =some e→xh (freeB x) w b (o+i*z) e)→
     ∃ news,Src P w z v ys.length news∧(∀ (i:Nat) e,ys[i]? =some e→∀ (j:Nat) c,e.cells[j]? =some c→c.isCell=true∧∃ v,news[i*z+j]? =some v∧Rd (freeB x) w v c∧v.oneCell'=true)∧
     ∃ ad cap,v= .slice ad ys.length cap∧(ad=none→ys=[])∧∀ a0,ad=some a0→∀ (m:Nat) v,news[m]? =some v→w.cell? (a0.add m)=some v:=by
   intro b o cap e hcell;subst e;obtain⟨news,f1,f2,f3⟩:=m8 (w:=w) (F:=freeB x) z (fun m=>w.cell? (ad3 b (o+m))) ys 0 (i7 hz) (fun i e he j c hj=>by
     obtain⟨q1,q2⟩:=hcell i e he;obtain⟨v,g1,g2⟩:=q2 j c hj;exact⟨v,by rw[← g1];congr 2;simp;omega,g2,g2.oneCell (q1 c (List.mem_of_getElem? hj))⟩)
   refine⟨news,⟨fun w'=>rfl,fun w' hw=> ?_,f1,fun v hv=> ?_⟩,fun i e he j c hj=>⟨(hcell i e he).1 c (List.mem_of_getElem? hj),f3 i e he j c hj⟩,_,cap,rfl,by simp,fun a0 ha m v hm=>by
      cases ha;rw[b8];have:=(f2 m v hm).1;simpa using this⟩
   · refine run_firstCells_some (P:=P) w' z ys.length (ad3 b o) ys.length cap news f1 (fun m v hm=> ?_)
     rw[b8];have:=(f2 m v hm).1;simp only[Nat.zero_mul,Nat.zero_add] at this;rw[← this];simp[World.cell?,hw]
   · obtain⟨m,hm⟩:=aae hv
     exact(f2 m v hm).2
 have hemp:∀ ad cap,v= .slice ad 0 cap→ys=[]→
     ∃ news,Src P w z v ys.length news∧(∀ (i:Nat) e,ys[i]? =some e→∀ (j:Nat) c,e.cells[j]? =some c→c.isCell=true∧∃ v,news[i*z+j]? =some v∧Rd (freeB x) w v c∧v.oneCell'=true)∧
     ∃ ad cap,v= .slice ad ys.length cap∧(ad=none→ys=[])∧∀ a0,ad=some a0→∀ (m:Nat) v,news[m]? =some v→w.cell? (a0.add m)=some v:=by
   rintro ad cap rfl rfl
   refine⟨[],⟨fun w'=>rfl,fun w' _=> ?_,by simp,by simp⟩,by simp,ad,cap,rfl,by simp,by simp⟩
   cases ad with
   |none=>rfl
   |some q=>exact run_firstCells_some (P:=P) w' z 0 q 0 cap [] yt yt
 unfold cont at hc;split at hc
 · cases hc
   obtain⟨ad,this⟩:=hr.d_inv.nilS_inv;exact hemp ad 0 this rfl
 · cases hc
   rcases hr.d_inv.sl_at (z:=z) (fun e he=>i7 hz e (by cases ys<;>simp_all)) with⟨ad,cap,e,e0⟩|⟨b,o,cap,e,_,_,hp⟩
   · exact hemp ad cap e e0
   exact key b o cap e (fun i e he=>(hp i e he).cells)
 · rename_i nw z' es'
   cases hc;obtain⟨l1,b,o,cap,_,e,_,_,A⟩:=hr.own_inv;refine key b o cap e (fun i e he=> ?_)
   have:z'=z:=by rw[← A.wid e (List.mem_of_getElem? he)];exact i7 hz e (List.mem_of_getElem? he)
   subst this;exact A.cells he
 · rename_i l off n
   split at hc
   · rename_i nw z' es' hs
     cases hc;obtain⟨b,o',cap',q1,q2,q3,q4,q5⟩:=R.bor_at hr hs;have hlen:((es'.drop off).take n).length=n:=by simp;omega
     refine key b o' cap' (by rw[q1,hlen]) (fun i e he=> ?_)
     have:z'=z:=by rw[← q5.wid e (List.mem_of_getElem? he)];exact i7 hz e (List.mem_of_getElem? he)
     subst this;exact q5.cells he
   · cases hc
 · cases hc
theorem bn {b o:Nat} {news:List Value} {b' o':Nat} {u:Value} (h:w.cell? (ad3 b' o')=some u) (hout:b'=b→o'<o∨o+news.length≤o'):
  (w.setCells b o news).cell? (ad3 b' o')=some u:=by
 rw[World.cell?_setCells_out b news o w _ (fun h1 _=>hout h1)];exact h
theorem Arr.push {b o cap z:Nat} {es ys:List D} (A:Arr (freeB x) w b o cap z es) (hb:x.ow b≠none) (hcap:es.length+ys.length≤cap) {news:List Value} (hn:news.length=ys.length*z) (hz:∀ e∈ys,e.cells.length=z)
   (hs:∀ (i:Nat) e,ys[i]? =some e→∀ (j:Nat) c,e.cells[j]? =some c→c.isCell=true∧∃ v,news[i*z+j]? =some v∧Rd (freeB x) w v c∧v.oneCell'=true):
   Arr (freeB x) (w.setCells b (o+es.length*z) news) b o cap z (es++ys):=by
 have hmono:∀ b' o' u,freeB x b'→w.cell? (ad3 b' o')=some u→freeB x b'∧(w.setCells b (o+es.length*z) news).cell? (ad3 b' o')=some u:=fun b' o' u h1 h2=>
   ⟨h1,bn h2 (fun e=>absurd h1 (by rw[e];exact hb))⟩
 have hle:(es.length+ys.length)*z≤cap*z:=zu z hcap;rw[aaf] at hle;refine⟨A.pos,fun j hj=> ?_,fun e he=> ?_,fun e he=> ?_,fun i e he j c hj=> ?_⟩
 · obtain⟨⟨u,hu⟩,hf⟩:=A.room j hj
   exact⟨eh b news _ w _ hu,by rw[World.frozen?_setCells];exact hf⟩
 · rcases aan.1 he with he|he
   · exact A.wid e he
   · exact hz e he
 · rcases aan.1 he with he|he
   · exact A.cel e he
   · obtain⟨i,hi⟩:=aae he
     intro c hc;obtain⟨j,hj⟩:=aae hc;exact(hs i e hi j c hj).1
 · rw[List.getElem?_append] at he
   split at he
   · rename_i hlt
     obtain⟨v,q1,q2⟩:=A.els i e he j c hj;have hjz:j<z:=by rw[← A.wid e (List.mem_of_getElem? he)];exact(y4.1 hj).1
     have:=tj hlt hjz;exact⟨v,bn q1 (fun _=> .inl yp),q2.mono hmono⟩
   · rename_i hlt
     obtain⟨_,v,q1,q2,q3⟩:=hs _ e he j c hj;refine⟨v,?_,q2.mono hmono⟩;have hm:(i-es.length)*z+j<news.length:=(y4.1 q1).1;have:=World.cell?_setCells_in b news (o+es.length*z) w (fun m hm'=>by
      obtain⟨⟨u,hu⟩,_⟩:=A.room (es.length*z+m) yp;rw[show o+es.length*z+m=o+(es.length*z+m) by omega]
      rw[hu];rfl) _ hm
     have hi:i=es.length+(i-es.length):=yp;have e1:o+i*z+j=o+es.length*z+((i-es.length)*z+j):=by
      conv=>lhs;rw[hi,aaf]
      omega
     rw[show ad3 b (o+i*z+j)=⟨b,o+es.length*z+((i-es.length)*z+j),none⟩ by rw[e1],this,← q1,yy hm]
theorem els_both {b o cap z:Nat} {es ys:List D} (A:Arr (freeB x) w b o cap z es) {olds news:List Value} (ho:olds.length=es.length*z) (hol:∀ (m:Nat) v,olds[m]? =some v→w.cell? (ad3 b (o+m))=some v)
   (hn:news.length=ys.length*z) (hz:∀ e∈ys,e.cells.length=z)
   (hs:∀ (i:Nat) e,ys[i]? =some e→∀ (j:Nat) c,e.cells[j]? =some c→c.isCell=true∧∃ v,news[i*z+j]? =some v∧Rd (freeB x) w v c∧v.oneCell'=true):
   ElsRd (freeB x) w (olds++news).toArray z (es++ys):=by
 refine⟨by simp[ho,hn,aaf],fun e he=> ?_,fun e he=> ?_,fun i e he j c hj=> ?_⟩
 · rcases aan.1 he with he|he
   · exact A.wid e he
   · exact hz e he
 · rcases aan.1 he with he|he
   · exact A.cel e he
   · obtain⟨i,hi⟩:=aae he
     intro c hc;obtain⟨j,hj⟩:=aae hc;exact(hs i e hi j c hj).1
 · rw[List.getElem?_append] at he
   split at he
   · rename_i hlt
     obtain⟨v,q1,q2⟩:=A.els i e he j c hj;have hjz:j<z:=by rw[← A.wid e (List.mem_of_getElem? he)];exact(y4.1 hj).1
     have hlt2:=tj hlt hjz;have hm:i*z+j<olds.length:=yp;have hcell:=hol _ _ (yy hm);rw[show o+(i*z+j)=o+i*z+j by omega,q1] at hcell
     refine⟨v,?_,q2,q2.oneCell (A.cel e (List.mem_of_getElem? he) c (List.mem_of_getElem? hj))⟩;simp only[List.getElem?_toArray];rw[aag hm,yy hm,← Option.some.inj hcell]
   · rename_i hlt
     obtain⟨_,v,q1,q2⟩:=hs _ e he j c hj;refine⟨v,?_,q2⟩;have hi:i=es.length+(i-es.length):=yp;have e1:i*z+j=olds.length+((i-es.length)*z+j):=by
      conv=>lhs;rw[hi,aaf]
      omega
     simp only[List.getElem?_toArray];rw[e1,List.getElem?_append_right yp,← q1]
     congr 1
     omega
end
end Go.Ev
namespace Go.Ev
open Go
section
variable {P:Program} {cfg:Cfg} {x:Cx} {N dep:Nat} {s:Get} {a:Act} {w:World}
theorem Rel.take (R:Rel cfg x N s a w) {l0:Loc} {nw:Bool} {z:Nat} {es:List D} (h0:s l0=some (.own nw z es)) {b:Nat} (how:x.ow b=some (.at l0)):
   Rel cfg (x.give b (some .res)) N (updG s [(l0,.junk)]) a w:=by
 have hs':∀ l',updG s [(l0,.junk)] l'=if l'=l0 then some .junk else s l':=fun l'=>rfl
 have hx:∀ b',x.ow b'=none→(x.give b (some .res)).ow b'=none:=fun b' h=>by
   rw[Cx.give_ne];· exact h
   intro e;rw[e,how] at h;cases h
 have hB:∀ d j,(s (.cell ⟨d,j,0⟩)).isSome→(updG s [(l0,.junk)] (.cell ⟨d,j,0⟩)).isSome∧(x.give b (some .res)).ad d j=x.ad d j:=by
   intro d j h;rw[hs'];split<;>simp[h]
 have hcv:∀ l',conc (x.give b (some .res)) a w l'=conc x a w l':=fun l'=>by cases l'<;>rfl
 refine R.step [l0] R.size rfl rfl (fun b' hb'=> ?_) (fun l' hl' v' h=> ?_) (fun l' hl' v' h=> ?_) (fun j hj=> ?_)
   (fun b o u h1 h2=>⟨hx b h1,h2⟩) (fun b o u h1 h2=>⟨⟨u,h1⟩,h2⟩) (fun l' hl' z es h=> ?_) hB (fun l1 hl1 b1 h1=>⟨?_,fun _ _ h=>h⟩) (fun c v' h=> ?_) (R.nofz_give (fun _=> .inr ⟨_,how⟩)) (fun b' h _=>⟨Cx.give_ne _ _ (fun e=>by subst e;rw[how] at h;rcases h with h|h<;>cases h),rfl⟩)
 · by_cases e:b'=b
   · subst e;exact R.bound _ (by rw[how];simp)
   · rw[Cx.give_ne _ _ e] at hb';exact R.bound _ hb'
 · have hne:l'≠l0:=by simpa using hl'
   rw[hs',if_neg hne] at h;exact⟨h,fun u hu=>by rw[hcv];exact hu⟩
 · have he:l'=l0:=by simpa using hl'
   subst he;rw[hs',if_pos rfl] at h;cases h;obtain⟨u,hu,_⟩:=R.locs l' _ h0;exact⟨u,by rw[hcv];exact hu,.junk _ _⟩
 · have:l0= .slot j:=(aal.1 hj).symm
   exact R.slotN j _ (this ▸ h0)
 · have he:l'=l0:=by simpa using hl'
   subst he;rw[hs',if_pos rfl] at h;cases h
 · have hne:l1≠l0:=by simpa using hl1
   rw[Cx.give_ne];· exact h1
   intro e;rw[e,how] at h1;cases h1;exact hne rfl
 · have key:∀ v0,s (.cell c)=some v0→(x.give b (some .res)).ow (x.ad c.d c.k)=some (.box c.d c.k)∧
      (updG s [(l0,.junk)] (.cell ⟨c.d,c.k,0⟩)).isSome∧w.frozen? (ad3 (x.ad c.d c.k) c.off)=false:=fun v0 hv0=>by
     obtain⟨h1,h2,h3⟩:=R.box c v0 hv0;refine⟨?_,(hB _ _ h2).1,h3⟩;rw[Cx.give_ne];· exact h1
     intro e;rw[e,how] at h1;cases h1
   rw[hs'] at h;split at h
   · rename_i e;exact key _ (e ▸ h0)
   · exact key _ h
theorem Rel.inhand (R:Rel cfg x N s a w) {b:Nat} (how:x.ow b=some .res) {w':World} (hw:OnlyB b w w'):Rel cfg x N s a w':=by
 have hbn:∀ b',x.ow b'≠x.ow b→b'≠b:=fun b' h e=>h (e ▸ rfl)
 have hcv:∀ l' v,s l'=some v→conc x a w' l'=conc x a w l':=fun l' v h=>by
   cases l' with
   |slot k=>rfl
   | cell c=>
     obtain⟨h1,_,_⟩:=R.box c v h;exact hw.cell (hbn _ (by rw[h1,how];simp))
 refine R.step [] R.size rfl rfl (fun b' hb'=>hw.size ▸ R.bound b' hb') (fun l' _ v' h=>⟨h,fun u hu=>by rw[hcv l' v' h];exact hu⟩) (fun l' hl'=>by simp at hl') (fun j hj=>by simp at hj)
   (fun b1 o1 u h1 h2=>⟨h1,by rw[hw.cell (hbn b1 (by rw[h1,how];simp))];exact h2⟩) (fun b1 o1 u h1 h2=> ?_) (fun l' hl'=>by simp at hl') (fun d k h=>⟨h,rfl⟩)
   (fun l1 _ b1 h1=>⟨h1,fun o1 u h=>by rw[hw.cell (hbn b1 (by rw[h1,how];simp))];exact h⟩) (fun c v' h=> ?_) (R.nofz_only hw) (fun b1 h _=>⟨rfl,hw.other b1 (hbn b1 (by rcases h with h|h<;>rw[h,how]<;>simp))⟩)
 · by_cases e:b1=b
   · subst e
     exact⟨hw.keep _ _ h1,by rw[hw.froz _ ⟨u,h1⟩];exact h2⟩
   · exact⟨⟨u,by rw[hw.cell e];exact h1⟩,by rw[hw.frozen e];exact h2⟩
 · obtain⟨h1,h2,h3⟩:=R.box c v' h
   exact⟨h1,h2,by rw[hw.frozen (hbn _ (by rw[h1,how];simp))];exact h3⟩
theorem Fr.inhand {b:Nat} (how:x.ow b=some .res) {w':World} (hw:OnlyB b w w'):Fr dep x x w w':=
 ⟨by rw[hw.size];exact y7 _,fun b' _ h=>⟨hw.other b' (fun e=>by rw[e,how] at h;simp at h),rfl⟩,fun _ _ _=>rfl,hw.io,hw.room,rfl⟩
theorem Fr.giveRes {b:Nat} (how:x.ow b=some .res) (o:Option Own):Fr dep x (x.give b o) w w:=
 ⟨y7 _,fun b' _ h=>⟨rfl,Cx.give_ne _ _ (fun e=>by rw[e,how] at h;simp at h)⟩,fun _ _ _=>rfl,.refl _,.refl _,rfl⟩
theorem Rel.name (R:Rel cfg x N s a w) {b:Nat} (how:x.ow b=some .res) {o:Own}:Rel cfg (x.give b (some o)) N s a w:=by
 have hbn:∀ b',x.ow b'≠x.ow b→b'≠b:=fun b' h e=>h (e ▸ rfl)
 have hcv:∀ l',conc (x.give b (some o)) a w l'=conc x a w l':=fun l'=>by cases l'<;>rfl
 refine R.step [] R.size rfl rfl (fun b' hb'=> ?_) (fun l' _ v' h=>⟨h,fun u hu=>by rw[hcv];exact hu⟩) (fun l' hl'=>by simp at hl') (fun j hj=>by simp at hj)
   (fun b1 o1 u h1 h2=>⟨by rw[Cx.give_ne _ _ (hbn b1 (by rw[h1,how];simp))];exact h1,h2⟩) (fun b1 o1 u h1 h2=>⟨⟨u,h1⟩,h2⟩) (fun l' hl'=>by simp at hl') (fun d k h=>⟨h,rfl⟩)
   (fun l1 _ b1 h1=>⟨by rw[Cx.give_ne _ _ (hbn b1 (by rw[h1,how];simp))];exact h1,fun _ _ h=>h⟩) (fun c v' h=> ?_) (R.nofz_give (fun _=> .inl how)) (fun b1 h _=>⟨Cx.give_ne _ _ (hbn b1 (by rcases h with h|h<;>rw[h,how]<;>simp)),rfl⟩)
 · by_cases e:b'=b
   · subst e;exact R.bound _ (by rw[how];simp)
   · rw[Cx.give_ne _ _ e] at hb';exact R.bound _ hb'
 · obtain⟨h1,h2,h3⟩:=R.box c v' h
   exact⟨by rw[Cx.give_ad,Cx.give_ne _ _ (hbn _ (by rw[h1,how];simp))];exact h1,h2,h3⟩
theorem Rel.place (R:Rel cfg x N s a w) {k:Nat} (hk:k<N) {b:Nat} (how:x.ow b=some .res) {o len cap z:Nat} {es:List D} (hA:Arr (freeB x) w b o cap z es) (hl:es.length=len) (hcap:len≤cap):
  Rel cfg (x.give b (some (.at (.slot k)))) N (updG s [(.slot k,.own true z es)]) (a.put (some k) (.slice (some (ad3 b o)) len cap)) w:=by
 refine(R.name how (o:= .at (.slot k))).putAt hk yt (.own _ b o len cap z true es yt hl hcap (hA.mono (fun b' o u h1 h2=>⟨?_,h2⟩) (fun _ _ h=>h) (fun _ _ _ h=>h)))
 show(x.give b (some (.at (.slot k)))).ow b'=none;rw[Cx.give_ne];· exact h1
 intro e;rw[e,freeB,how] at h1;cases h1
theorem Rel.landed {l0:Loc} {k:Nat} {y:V} (R:Rel cfg x N (updG (updG s [(l0,.junk)]) [(.slot k,y)]) a w):Rel cfg x N (updG s (put1 (some k) y++[(l0,.junk)])) a w:=by
 by_cases e:l0= .slot k
 · subst e
   have R':=R.forget (l0:= .slot k) (by simp[a8])
   exact R'.congr (fun l=>by simp only[put1,bm,a7];split<;>simp_all)
 · exact R.congr (fun l=>by
    simp only[put1,bm,a7];by_cases h1:l=l0
    · subst h1;simp[e]
    · simp[h1])
variable {o:Oper} {c:Call}
theorem uf (R:Rel cfg x N s a w) (ho:o.op= .call c) (hb:c.callee= .builtin .append) {k:Nat} (hd:o.dst=some k) (hk:k<N) {X Y:Operand} (hargs:c.args.toList=[X,Y]) {t u e:TypeId} (htys:c.argTypes.toList=[t,u])
   (ht:P.underlying t=some (.slice e)) {d:TypeDesc} (hu:P.underlying u=some d) (hdi:∀ k,d≠ .int k) {i:TypeInfo} (hi:P.info? e=some i) {zd:D} (hzd:zeroD P e=some zd) (hzl:zd.cells.length=i.size) (hst:zd.storable=true)
   (hby:i.bytes≤2048) (hb0:i.bytes≠0) {l0:Loc} {nw:Bool} {es0 es:List D} (h0:s l0=some (.own nw i.size es0)) {b of cap:Nat} (how:x.ow b=some (.at l0)) (hA:Arr (freeB x) w b of cap i.size es) (hcap:es.length≤cap)
   (hX:a.eval X= .slice (some (ad3 b of)) es.length cap) {ys:List D} (hmost:es.length+ys.length≤bh) (hyz:∀ e∈ys,e.cells.length=i.size) {news:List Value} (S:Src P w i.size (a.eval Y) ys.length news)
   (hs:∀ (j:Nat) e,ys[j]? =some e→∀ (m:Nat) c,e.cells[m]? =some c→c.isCell=true∧∃ v,news[j*i.size+m]? =some v∧Rd (freeB x) w v c∧v.oneCell'=true):
   Goes P cfg x N dep (updG s (put1 (some k) (.own true i.size (es++ys))++[(l0,.junk)])) a w o:=by
 have hAr:c.args= #[X,Y]:=by apply Array.ext';simp[hargs]
 have hT:c.argTypes= #[t,u]:=by apply Array.ext';simp[htys]
 have hgo:∀ {v w'},(Builtin.append_ #[t,u] o.type #[a.eval X,a.eval Y]).run P w= .ok v w'→(execOp a.eval o).run P w= .ok (.value v) w':=fun {v w'} h=>by
   refine cg ho hb ?_;rw[hAr,hT];simp only[List.map_toArray,List.map_cons,List.map_nil,builtin,Sem.run_bind,h,Result.andThen_ok,Sem.run_pure]
 have RT:=R.take h0 how;have hres:(x.give b (some .res)).ow b=some .res:=by simp
 have hmono:∀ b' o' u,freeB x b'→w.cell? (ad3 b' o')=some u→freeB (x.give b (some .res)) b'∧w.cell? (ad3 b' o')=some u:=fun b' o' u h1 h2=>by
   refine⟨?_,h2⟩;show(x.give b (some .res)).ow b'=none;rw[Cx.give_ne];· exact h1
   intro e;rw[e,freeB,how] at h1;cases h1
 have hA':=hA.mono hmono (fun _ _ h=>h) (fun _ _ _ h=>h)
 have hs':∀ (j:Nat) e,ys[j]? =some e→∀ (m:Nat) c,e.cells[m]? =some c→c.isCell=true∧∃ v,news[j*i.size+m]? =some v∧Rd (freeB (x.give b (some .res))) w v c∧v.oneCell'=true:=fun j e he m c hc=>by
   obtain⟨q1,v,q2,q3,q4⟩:=hs j e he m c hc;exact⟨q1,v,q2,q3.mono hmono,q4⟩
 by_cases hroom:es.length+ys.length≤cap
 · have hle:(es.length+ys.length)*i.size≤cap*i.size:=zu _ hroom
   rw [aaf] at hle;have hnl:=S.num;have hrun:=run_append_room2 (ty:=o.type) (o:=of) (b:=b) ht hu hdi hi S hroom (fun j hj=>by
      obtain⟨⟨u,hu⟩,_⟩:=hA.room (es.length*i.size+j) yp;rw[show of+es.length*i.size+j=of+(es.length*i.size+j) by omega,hu];rfl) (fun j hj=>by
      obtain⟨_,hf⟩:=hA.room (es.length*i.size+j) yp;rw[show of+es.length*i.size+j=of+(es.length*i.size+j) by omega];exact hf)
   rw[← hX] at hrun;have hw:=bq w b (of+es.length*i.size) news;have R2:=RT.inhand hres hw;have hA2:=hA'.push yt hroom hnl hyz hs';have R3:=R2.place hk hres hA2 (len:=es.length+ys.length) yt hroom;refine⟨_,_,(x.give b (some .res)).give b (some (.at (.slot k))),.inl (hgo hrun),?_,((Fr.give how _).trans (Fr.inhand hres hw)).trans (Fr.giveRes hres _)⟩;rw[hd];exact R3.landed
 · have hlt:cap<es.length+ys.length:=yp
   simp only[zeroD,y8] at hzd;obtain⟨zv,⟨i',hi',hz1⟩,hz2⟩:=hzd;rw[hi] at hi';cases hi';obtain⟨r1,_,_⟩:=(ja (F:=freeB x) (w:=w) hz2).cells hst;obtain⟨olds,f1,f2,f3⟩:=m8 (w:=w) (F:=freeB x) i.size (fun m=>w.cell? (ad3 b (of+m))) es 0 hA.wid (fun j e he m c hc=>by
    obtain⟨v,q1,q2⟩:=hA.els j e he m c hc;exact⟨v,by rw[← q1];congr 2;simp;omega,q2,q2.oneCell (hA.cel e (List.mem_of_getElem? he) c (List.mem_of_getElem? hc))⟩)
   have hol:∀ (m:Nat) v,olds[m]? =some v→w.cell? (ad3 b (of+m))=some v:=fun m v hm=>by
    have:=(f2 m v hm).1;simpa using this
   have h47:(es.length+ys.length)*i.bytes≤140737488355328:=by
    exact aaa (Nat.mul_le_mul hmost hby) (by decide:bh*2048≤140737488355328)
   have hrun:=run_append_grow2 (ty:=o.type) (base:=some (ad3 b of)) (olds:=olds) ht hu hdi hi hz1 S hlt hb0 h47 (fun w' hw'=>
    run_firstCells_some (P:=P) w' i.size es.length (ad3 b of) es.length cap olds f1 (fun m v hm=>by
      rw[b8];rw[← hol m v hm];simp[World.cell?,hw']))
   rw [← hX] at hrun;have hE:=els_both hA f1 hol S.num hyz hs;have hge:=grownCap_ge2 w (es.length+ys.length) cap e;have R2:=(RT.drew).alloc (.cells (olds.toArray++news.toArray++Builtin.zeroCells zv.cells (grownCap w (es.length+ys.length) cap e-(es.length+ys.length))) e) (some .res);have hAr2:Arr (freeB ((x.give b (some .res)).give w.drew.heap.size (some .res))) (w.drew.alloc (.cells (olds.toArray++news.toArray++Builtin.zeroCells zv.cells (grownCap w (es.length+ys.length) cap e-(es.length+ys.length))) e)) w.heap.size 0
      (grownCap w (es.length+ys.length) cap e) i.size (es++ys):=by
    refine ww (hE.mono hmono) hA.pos (by simpa using hge) _ ?_ (fun m v hm=> ?_) e (some .res) yt w.drew rfl RT
    · simp only[Array.size_append,List.size_toArray,zeroCells_size,f1,S.num,r1,hzl]
      rw[← aaf,← aaf]
      congr 1
      omega
    · have hm':m<(olds++news).length:=by
       have:=(zj.1 hm).1;simpa using this
      rw[aah (by simpa using hm')]
      simpa using hm
   have R3:=R2.place hk yt hAr2 (len:=es.length+ys.length) yt hge;refine⟨_,_,((x.give b (some .res)).give w.drew.heap.size (some .res)).give w.heap.size (some (.at (.slot k))),.inl (hgo hrun),?_,(((Fr.give how _).trans Fr.drew).trans (Fr.alloc _ _)).trans (Fr.giveRes yt _)⟩;rw[hd];exact R3.landed
where
 grownCap_ge2 (w:World) (need old:Nat) (e:TypeId):need≤grownCap w need old e:=by
  simp[grownCap,Question.cut]
theorem jm (w:World) (need old:Nat) (e:TypeId):need≤grownCap w need old e:=by
 simp[grownCap,Question.cut]
theorem append_nil (R:Rel cfg x N s a w) (ho:o.op= .call c) (hb:c.callee= .builtin .append) {k:Nat} (hd:o.dst=some k) (hk:k<N) {X Y:Operand} (hargs:c.args.toList=[X,Y]) {t u e:TypeId} (htys:c.argTypes.toList=[t,u])
  (ht:P.underlying t=some (.slice e)) {d:TypeDesc} (hu:P.underlying u=some d) (hdi:∀ k,d≠ .int k) {i:TypeInfo} (hi:P.info? e=some i) {zd:D} (hzd:zeroD P e=some zd) (hzl:zd.cells.length=i.size) (hst:zd.storable=true)
  (hby:i.bytes≤2048) (hb0:i.bytes≠0) (hz0:i.size≠0) {ad:Option Addr} (hX:a.eval X= .slice ad 0 0) {ys:List D} (hne:ys≠[]) (hmost:ys.length≤bh) (hyz:∀ e∈ys,e.cells.length=i.size) {news:List Value} (S:Src P w i.size (a.eval Y) ys.length news)
  (hs:∀ (j:Nat) e,ys[j]? =some e→∀ (m:Nat) c,e.cells[m]? =some c→c.isCell=true∧∃ v,news[j*i.size+m]? =some v∧Rd (freeB x) w v c∧v.oneCell'=true):
  Goes P cfg x N dep (updG s (put1 (some k) (.own true i.size ys))) a w o:=by
 have hAr:c.args= #[X,Y]:=by apply Array.ext';simp[hargs]
 have hT:c.argTypes= #[t,u]:=by apply Array.ext';simp[htys]
 have hgo:∀ {v w'},(Builtin.append_ #[t,u] o.type #[a.eval X,a.eval Y]).run P w= .ok v w'→(execOp a.eval o).run P w= .ok (.value v) w':=fun {v w'} h=>by
  refine cg ho hb ?_;rw[hAr,hT];simp only[List.map_toArray,List.map_cons,List.map_nil,builtin,Sem.run_bind,h,Result.andThen_ok,Sem.run_pure]
 simp only[zeroD,y8] at hzd;obtain⟨zv,⟨i',hi',hz1⟩,hz2⟩:=hzd;rw[hi] at hi';cases hi';obtain⟨r1,_,_⟩:=(ja (F:=freeB x) (w:=w) hz2).cells hst;have h47:(0+ys.length)*i.bytes≤140737488355328:=by
  rw[Nat.zero_add];exact aaa (Nat.mul_le_mul hmost hby) (by decide:bh*2048≤140737488355328)
 have hpos:0<ys.length:=aa2.2 hne;have hrun:=run_append_grow2 (ty:=o.type) (base:=ad) (sLen:=0) (sCap:=0) (olds:=[]) ht hu hdi hi hz1 S yp hb0 h47 (fun w' _=>by
  cases ad with
  |none=>rfl
  |some q=>exact run_firstCells_some (P:=P) w' i.size 0 q 0 0 [] yt yt)
 rw [← hX] at hrun;have hE:ElsRd (freeB x) w news.toArray i.size ys:=⟨by simp[S.num],hyz,fun e he c hc=>by
    obtain⟨j,hj⟩:=aae he;obtain⟨m,hm⟩:=aae hc;exact(hs j e hj m c hm).1,fun j e he m c hc=>by
    obtain⟨_,v,q1,q2,q3⟩:=hs j e he m c hc;exact⟨v,by simpa using q1,q2,q3⟩⟩
 have hge:=jm w (0+ys.length) 0 e;have R2:=(R.drew).alloc (.cells (([]:List Value).toArray++news.toArray++Builtin.zeroCells zv.cells (grownCap w (0+ys.length) 0 e-(0+ys.length))) e) (some (.at (.slot k)));have hAr2:Arr (freeB (x.give w.heap.size (some (.at (.slot k))))) (w.drew.alloc (.cells (([]:List Value).toArray++news.toArray++Builtin.zeroCells zv.cells (grownCap w (0+ys.length) 0 e-(0+ys.length))) e)) w.heap.size 0
    (grownCap w (0+ys.length) 0 e) i.size ys:=by
  refine ww hE hz0 yp _ ?_ (fun m v hm=> ?_) e (some (.at (.slot k))) yt w.drew rfl R
  · simp only[Array.size_append,List.size_toArray,zeroCells_size,S.num,r1,hzl,List.length_nil,Nat.zero_add]
    have hge':=jm w ys.length 0 e;rw[← aaf]
    congr 1
    omega
  · have hm':m<news.length:=by
     have:=(zj.1 hm).1;simpa using this
    rw[aah (by simpa using hm')]
    simpa using hm
 refine⟨_,_,x.give w.drew.heap.size (some (.at (.slot k))),.inl (hgo hrun),?_,Fr.drew.trans (Fr.alloc _ _)⟩;rw[hd];exact R2.putAt hk yt (.own _ _ _ _ _ i.size true ys yt yp hge hAr2)
theorem rk (R:Rel cfg x N s a w) (ho:o.op= .call c) (hb:c.callee= .builtin .append) {k:Nat} (hd:o.dst=some k) (hk:k<N) {X Y:Operand} (hargs:c.args.toList=[X,Y]) {t u e:TypeId} (htys:c.argTypes.toList=[t,u])
  (ht:P.underlying t=some (.slice e)) {d:TypeDesc} (hu:P.underlying u=some d) (hdi:∀ k,d≠ .int k) {i:TypeInfo} (hi:P.info? e=some i) {base:Option Addr} {sLen sCap:Nat} (hcap:sLen≤sCap)
  (hX:a.eval X= .slice base sLen sCap) (S:Src P w i.size (a.eval Y) 0 []) {y:V} (hy:y.isOwn=false) {l:Option Loc} (hr:RdV x s (conc x a w) w l (a.eval X) y):
  Goes P cfg x N dep (updG s (put1 o.dst y)) a w o:=by
 have hAr:c.args= #[X,Y]:=by apply Array.ext';simp[hargs]
 have hT:c.argTypes= #[t,u]:=by apply Array.ext';simp[htys]
 have hz:(match d with| .int _=>true|_=>false)=false:=by cases d<;>first|rfl|exact absurd rfl (hdi _)
 have hc:=S.cells w rfl;have hl:=S.len w;have hrun:(Builtin.append_ #[t,u] o.type #[a.eval X,a.eval Y]).run P w= .ok (a.eval X) w:=by
  rw[hX];simp only[Builtin.append_,List.getElem?_toArray,List.getElem?_cons_zero,List.getElem?_cons_succ,Sem.run_bind,run_underlying ht,run_underlying hu,Result.andThen_ok,sizeOf,typeInfo,run_program,hi,Sem.run_pure,hz,
   zf,if_false,hl,Nat.add_zero,hcap,if_true,aa0,hc]
  cases base<;>rfl
 refine ao R hd hk (v:=a.eval X) (cg ho hb ?_) hy hr;rw[hAr,hT];simp only[List.map_toArray,List.map_cons,List.map_nil,builtin,Sem.run_bind,hrun,Result.andThen_ok,Sem.run_pure]
theorem axz (R:Rel cfg x N s a w) (ho:o.op= .call c) (hb:c.callee= .builtin .append) {k:Nat} (hd:o.dst=some k) (hk:k<N) {X Y:Operand} (hargs:c.args.toList=[X,Y]) {t u e:TypeId} (htys:c.argTypes.toList=[t,u])
   (ht:P.underlying t=some (.slice e)) {d:TypeDesc} (hu:P.underlying u=some d) (hdi:∀ k,d≠ .int k) {i:TypeInfo} (hi:P.info? e=some i) {zd:D} (hzd:zeroD P e=some zd) (hzl:zd.cells.length=i.size) (hst:zd.storable=true)
   (hb0:i.bytes≠0) (hz0:i.size≠0) {p:IOpd} (hX:cOpd X=some p) {y:V} (hy:val cfg s p=some y) {ys:List D} {news:List Value} (S:Src P w i.size (a.eval Y) ys.length news)
   (hs:∀ (j:Nat) e,ys[j]? =some e→∀ (m:Nat) c,e.cells[m]? =some c→c.isCell=true∧∃ v,news[j*i.size+m]? =some v∧Rd (freeB x) w v c∧v.oneCell'=true)
   {r:List (Loc×V)} (hr:cx s (some k) i.size i.bytes p y ys=some r):Goes P cfg x N dep (updG s r) a w o:=by
 obtain⟨l0,hrd,hl0⟩:=a6 R hX hy;unfold cx at hr;split at hr
 · rename_i hc
   simp only[ze,zh] at hc;obtain⟨hc1,hc2⟩:=hc;have hyz:=i7 hc1;have hnil:ys=[]→Src P w i.size (a.eval Y) 0 []:=fun e=>by
     subst e;have:=S.num;simp at this;subst this;exact S
   split at hr
   ·
     obtain⟨ad,hv⟩:=hrd.d_inv.nilS_inv;split at hr
     · cases hr
       rw[← hd];exact rk R ho hb hd hk hargs htys ht hu hdi hi (y7 _) hv (hnil rfl) rfl hrd
     · rename_i hne
       split at hr
       · rename_i hm
         cases hr;exact append_nil R ho hb hd hk hargs htys ht hu hdi hi hzd hzl hst hc2 hb0 hz0 hv hne hm hyz S hs
       · cases hr
   ·
     split at hr
     · cases hr
       obtain⟨ad,cap,e,hcap⟩:=hrd.d_inv.sl_inv;rw[← hd];exact rk R ho hb hd hk hargs htys ht hu hdi hi hcap e (hnil rfl) rfl hrd
     · cases hr
   ·
     rename_i j nw z' es;split at hr
     · rename_i hq
       obtain⟨rfl,hq2⟩:=hq;cases hr;obtain⟨hl1,rfl⟩:=hl0 j rfl;have he:s (.slot j)=some (.own nw i.size es):=hy;obtain⟨b,o',cap,q1,q2,q3,q4⟩:=R.own_at he;exact uf R ho hb hd hk hargs htys ht hu hdi hi hzd hzl hst hc2 hb0 he q2 q4 q3 (by simpa[conc,Act.eval] using q1) hq2 hyz S hs
     · cases hr
   ·
     rename_i l off n;split at hr
     · rename_i z' es hs0
       split at hr
       · rename_i hq
         obtain⟨rfl,hq2,rfl,hq4⟩:=hq;cases hr;obtain⟨b,o',cap',q1,q2,q3,q4,q5⟩:=R.bor_at hrd hs0;have hlen:(es.take n).length=n:=by simp;omega
         have q5':Arr (freeB x) w b o' cap' i.size (es.take n):=by simpa using q5
         exact uf R ho hb hd hk hargs htys ht hu hdi hi hzd hzl hst hc2 hb0 hs0 q2 q5' yp (by rw[q1,hlen]) yp hyz S hs
       · cases hr
     · cases hr
   · cases hr
 · cases hr
end
end Go.Ev
namespace Go.Ev
open Go
section
variable {P:Program} {cfg:Cfg} {x:Cx} {N dep:Nat} {s:Get} {a:Act} {w:World}
theorem r8 {n:Int} (h0:0≤n) (h1:n≤2 ^ 62):IntKind.i64.wrap n=n:=by
 have e:IntKind.i64.wrap n=(if n % 18446744073709551616≥9223372036854775808 then n % 18446744073709551616-18446744073709551616 else n % 18446744073709551616):=by
  simp[IntKind.wrap,IntKind.bits,IntKind.signed]
 rw[e];have:(2:Int) ^ 62=4611686018427387904:=yu;split<;>omega
theorem sim_mkS (R:Rel cfg x N s a w) {o:Oper} {t e:TypeId} {L C:Operand} (ho:o.op= .makeSlice t L C) {k:Nat} (hd:o.dst=some k) (hk:k<N) (ht:P.underlying t=some (.slice e)) {i:TypeInfo} (hi:P.info? e=some i)
  {zd:D} (hzd:zeroC P e=some zd) {l c:IOpd} (hL:cOpd L=some l) (hC:cOpd C=some c) (hz0:i.size≠0) {n m:Int} (hn:(dat cfg s l).bind D.toInt? =some n) (hm:(dat cfg s c).bind D.toInt? =some m)
  (h:0≤n∧n≤m∧m≤bh∧i.bytes≤2048∧zd.cells.length=i.size∧zd.storable):Goes P cfg x N dep (updG s (put1 o.dst (.own true i.size (List.replicate n.toNat zd)))) a w o:=by
 obtain⟨h1,h2,h3,h4,h5,h6⟩:=h;obtain⟨kl,el⟩:=fm R hL hn;obtain⟨kc,ec⟩:=fm R hC hm;have hmost:(bh:Int)=68719476736:=yu;have p62:(2:Int) ^ 62=4611686018427387904:=yu;have p48:(2:Int) ^ 48=281474976710656:=yu;simp only[zeroC,y8] at hzd;obtain⟨zv,⟨i',hi',hz1⟩,hz2⟩:=hzd;rw[hi] at hi';cases hi';have hzr:=afh (F:=freeB x) (w:=w) hz2;obtain⟨r1,_,_⟩:=hzr.cells h6;have wn:IntKind.i64.wrap n=n:=r8 h1 yp;have wm:IntKind.i64.wrap m=m:=r8 yp yp;have hbm:(i.bytes:Int)*m≤281474976710656:=by
  have:(i.bytes:Int)*m≤2048*m:=Int.mul_le_mul_of_nonneg_right yp yp;omega
 have hrun:(execOp a.eval o).run P w= .ok (.value (.slice (some (ad3 w.heap.size 0)) n.toNat m.toNat)) (w.alloc (.cells ((Array.range (m.toNat*i.size)).map (zv.cells[· % zv.cells.size]!)) e)):=by
  have c2:((decide (m<0)||decide ((i.bytes:Int)*m>2 ^ 48)||decide (n<0)||decide (n>m))=true)=False:=by
    simp only[aa3,zh,eq_iff_iff,iff_false];omega
  simp only[execOp,ho,el,ec,Instr.makeSlice,asInt,asIntOf,Sem.run_bind,run_underlying ht,Result.andThen_ok,Sem.run_pure,typeInfo,run_program,hi,wn,wm,c2,if_false,run_askRoom,sizeOf];by_cases e0:m.toNat*i.size=0
  · have e1:(Array.range (m.toNat*i.size)).map (fun q=>(#[]:Array Value)[q % (#[]:Array Value).size]!)=(Array.range (m.toNat*i.size)).map (zv.cells[· % zv.cells.size]!):=by rw[e0];simp
    rw[if_pos e0];simp only[pure_bind,e1];rfl
  · rw[if_neg e0]
    simp only[Sem.run_bind,zeroValue,typeInfo,run_program,Result.andThen_ok,hi,hz1,Sem.run_pure];rfl
 have hzn:=ElsRd.zeros (n:=n.toNat) hzr h6 h5 hz0;refine⟨_,_,x.give w.heap.size (some (.at (.slot k))),.inl hrun,?_,Fr.alloc _ _⟩;rw[hd];refine(R.alloc _ (some (.at (.slot k)))).putAt hk yt ?_;refine .own _ _ _ _ m.toNat i.size true _ yt yt yp (ww hzn hz0 (by simp;omega) _ yt (fun j v hj=> ?_) e _ yt w rfl R)
 rw[Array.getElem?_map] at hj ⊢;cases hq:(Array.range (n.toNat*i.size))[j]? with
 |none=>rw[hq] at hj;cases hj
 | some q=>
  rw[hq] at hj;have hlt:j<n.toNat*i.size:=by simpa using(zj.1 hq).1
  have hle:n.toNat*i.size≤m.toNat*i.size:=zu _ yp;rw[Array.getElem?_range,if_pos hlt] at hq;cases hq;rw[Array.getElem?_range,if_pos yp];exact hj
theorem Rel.addCells {d k:Nat} (hb:x.ow (x.ad d k)=some (.box d k)):∀ (cs:List D) (off:Nat) (s:Get) (_:Rel cfg x N s a w),(off=0∨(s (.cell ⟨d,k,0⟩)).isSome)→
  (∀ (j:Nat) c,cs[j]? =some c→w.frozen? (ad3 (x.ad d k) (off+j))=false∧∃ v,w.cell? (ad3 (x.ad d k) (off+j))=some v∧Rd (freeB x) w v c)→
  Rel cfg x N (updG s (db d k off (cs.map .d))) a w
 | [],off,s,R,_,_=>R
 | c::cs,off,s,R,hal,h=>by
  obtain⟨h1,v,h2,h3⟩:=h 0 c rfl;have R1:=R.addCell (c:=⟨d,k,off⟩) hb hal (by simpa using h1) (v:=v) (by simpa using h2) (y:= .d c) rfl (l:=none) (.d _ _ _ h3)
  refine Rel.addCells hb cs (off+1) _ R1 (.inr ?_) (fun j c' hj=>by
    have:=h (j+1) c' (by simpa using hj)
    rw[show off+(j+1)=off+1+j by omega] at this
    exact this)
  show(if _ then _ else _:Option V).isSome
  rcases hal with rfl|hal
  · simp
  · split<;>simp[hal]
theorem lm {d k:Nat}:∀ (vs:List V) (off:Nat),∀ p∈db d k off vs,∃ i,p.1= .cell ⟨d,k,off+i⟩
 | [],_,p,h=>by simp[db] at h
 | v::vs,off,p,h=>by
  rcases zr.1 h with rfl|h
  · exact⟨0,rfl⟩
  · obtain⟨i,hi⟩:=lm vs (off+1) p h
    exact⟨i+1,by rw[hi];congr 2;omega⟩
theorem aez {d k:Nat} (s:Get) (v:V) (vs:List V):(updG s (db d k 0 (v::vs)) (.cell ⟨d,k,0⟩)).isSome:=by
 have h1:db d k 0 (v::vs)=(.cell ⟨d,k,0⟩,v)::db d k 1 vs:=rfl;rw[h1,a8,mo _ _ (fun p hp=>by
  obtain⟨i,hi⟩:=lm vs 1 p hp;rw[hi];simp)]
 simp
theorem sa (s:Get) (l:Loc) (y:V) (u:List (Loc×V)) (h:∀ p∈u,p.1≠l) (l':Loc):updG s ((l,y)::u) l'=updG (updG s u) [(l,y)] l':=xo u s y h l'
theorem newBox (R:Rel cfg x N s a w) {o:Oper} {k:Nat} (hd:o.dst=some k) (hk:k<N) (h0:s (.cell ⟨dep,k,0⟩)=none) {v:Value} {y:D} (hr:Rd (freeB x) w v y) (hst:y.storable=true) (hne:y.cells≠[]) (t:TypeId)
  (hrun:(execOp a.eval o).run P w= .ok (.value (.pointer (some (ad3 w.heap.size 0)))) (w.alloc (.cells v.cells t))):
  Goes P cfg x N dep (updG s ((.slot k,.ref dep k 0)::db dep k 0 (y.cells.map .d))) a w o:=by
 obtain⟨c1,c2,c3⟩:=hr.cells hst;have R1:=(R.alloc (.cells v.cells t) (some (.box dep k))).lay h0 w.heap.size;have hmono:∀ b o u,freeB x b→w.cell? (ad3 b o)=some u→freeB ((x.give w.heap.size (some (.box dep k))).lay dep k w.heap.size) b∧(w.alloc (.cells v.cells t)).cell? (ad3 b o)=some u:=fun b o u h1 h2=>by
  have hlt:=World.block_lt_of_cell? _ _ h2;refine⟨?_,by rw[World.cell?_alloc_lt _ _ _ hlt];exact h2⟩
  show(x.give w.heap.size (some (.box dep k))).ow b=none;rw[Cx.give_ne];· exact h1
  simp at hlt;omega
 have R2:=Rel.addCells (d:=dep) (k:=k) yt y.cells 0 _ R1 (.inl rfl) (fun j c hj=>by
  simp only[Nat.zero_add,Cx.lay_same];refine⟨World.frozen?_alloc_new _ _ _ _,?_⟩;have hjl:j<v.cells.size:=by rw[c1];exact(y4.1 hj).1
  refine⟨v.cells[j],by rw[World.cell?_alloc_new];simp[hjl],?_⟩
  exact(c3 j _ c (zm hjl) hj).1.mono hmono)
 have hcons:∃ c cs,y.cells=c::cs:=by cases h:y.cells with|nil=>exact absurd h hne|cons c cs=>exact⟨c,cs,rfl⟩
 obtain⟨c,cs,hcs⟩:=hcons;have R3:=R2.put hk (v:= .pointer (some (ad3 w.heap.size 0))) (y:= .ref dep k 0) rfl (l:=none) (by
  have:=RdV.ref (x:=(x.give w.heap.size (some (.box dep k))).lay dep k w.heap.size) (s:=updG s (db dep k 0 (y.cells.map .d))) (cv:=conc ((x.give w.heap.size (some (.box dep k))).lay dep k w.heap.size) a (w.alloc (.cells v.cells t)))
   (w:=w.alloc (.cells v.cells t)) none dep k 0 (by rw[hcs];exact aez s _ _)
  rwa [Cx.lay_same] at this)
 refine⟨_,_,(x.give w.heap.size (some (.box dep k))).lay dep k w.heap.size,.inl hrun,?_,(Fr.alloc _ _).trans (Fr.lay (y7 _))⟩;rw[hd];refine R3.congr (sa s _ _ _ (fun p hp=> ?_))
 obtain⟨i,hi⟩:=lm _ 0 p hp;rw[hi];simp
theorem ax0 (R:Rel cfg x N s a w) {o:Oper} {t:TypeId} (ho:o.op= .alloc t) {k:Nat} (hd:o.dst=some k) (hk:k<N) {z:D} (hz:zeroD P t=some z) (hne:z.cells≠[]) (hst:z.storable=true)
  (h0:s (.cell ⟨dep,k,0⟩)=none):Goes P cfg x N dep (updG s ((.slot k,.ref dep k 0)::db dep k 0 (z.cells.map .d))) a w o:=by
 simp only[zeroD,y8] at hz;obtain⟨zv,⟨i,hi,hz1⟩,hz2⟩:=hz;refine newBox R hd hk h0 (ja hz2) hst hne t ?_;simp only[execOp,ho,Instr.alloc,Sem.run_bind,zeroValue,typeInfo,run_program,Result.andThen_ok,hi,Sem.run_pure,hz1];rfl
theorem sim_box (R:Rel cfg x N s a w) {o:Oper} {t:TypeId} {X:Operand} (ho:o.op= .box t X) {k:Nat} (hd:o.dst=some k) (hk:k<N) {p:IOpd} (hX:cOpd X=some p) {n:Nat} {y:V} (hy:val cfg s p=some y)
   {u:List (Loc×V)} (hu:evBox dep s k n y=some u):Goes P cfg x N dep (updG s u) a w o:=by
 obtain⟨l0,hr,hl0⟩:=a6 R hX hy;unfold evBox at hu;split at hu
 · cases hu
 · rename_i hal
   have h0:s (.cell ⟨dep,k,0⟩)=none:=by simpa using hal
   have hrun:∀ v,a.eval X=v→(execOp a.eval o).run P w= .ok (.value (.pointer (some (ad3 w.heap.size 0)))) (w.alloc (.cells v.cells t)):=fun v e=>by
     simp only[execOp,ho,e,Instr.box];rfl
   have one:∀ (v:Value) (yv:V),a.eval X=v→v.oneCell'=true→yv.isOwn=false→RdV x s (conc x a w) w none v yv→
       ∃ x',Rel cfg x' N (updG s [(.slot k,.ref dep k 0),(.cell ⟨dep,k,0⟩,yv)]) (a.put (some k) (.pointer (some (ad3 w.heap.size 0)))) (w.alloc (.cells v.cells t))∧Fr dep x x' w (w.alloc (.cells v.cells t))∧
         x'.ad dep k=w.heap.size∧(∀ b,b<w.heap.size→x'.ow b=x.ow b):=by
     intro v yv e h1 hn hrv;have hvc:v.cells= #[v]:=by cases v<;>first|rfl|simp[Value.oneCell'] at h1
     have R1:=(R.alloc (.cells v.cells t) (some (.box dep k))).lay h0 w.heap.size;have hlt:∀ b o' u,w.cell? (ad3 b o')=some u→b≠w.heap.size:=fun b o' u h e=>by have:=World.block_lt_of_cell? _ _ h;simp at this;omega
     have hrv':RdV ((x.give w.heap.size (some (.box dep k))).lay dep k w.heap.size) s (conc ((x.give w.heap.size (some (.box dep k))).lay dep k w.heap.size) a (w.alloc (.cells v.cells t))) (w.alloc (.cells v.cells t)) none v yv:=by
       refine hrv.mono (fun b o' u h2 h3=>⟨?_,?_⟩) (fun b o' u h2 h3=>⟨⟨u,?_⟩,?_⟩) (fun l' z es hs=>⟨es,hs,rfl,fun b o' L C hc=>⟨L,C,?_⟩⟩) (fun d j hj=>⟨hj,?_⟩) yt
       · show(x.give w.heap.size (some (.box dep k))).ow b=none
         rw[Cx.give_ne _ _ (hlt b o' u h3)];exact h2
       · rw[World.cell?_alloc_old _ _ _ (hlt b o' u h3)];exact h3
       · rw[World.cell?_alloc_old _ _ _ (hlt b o' u h2)];exact h2
       · rw[World.frozen?_alloc_old _ _ _ (hlt b o' u h2)];exact h3
       · cases l' with
         |slot j=>exact hc
         | cell c=>
          have hne:¬ (c.d=dep∧c.k=k):=fun e=>by
           obtain⟨_,q,_⟩:=R.box c _ hs;rw[e.1,e.2,h0] at q;simp at q
          have hc':w.cell? (ad3 (x.ad c.d c.k) c.off)=some (.slice (some (ad3 b o')) L C):=hc;show(w.alloc _).cell? (ad3 (((x.give w.heap.size (some (.box dep k))).lay dep k w.heap.size).ad c.d c.k) c.off)=_;rw[Cx.lay_ne _ hne,Cx.give_ad,World.cell?_alloc_old _ _ _ (hlt _ _ _ hc')];exact hc'
       · refine Cx.lay_ne _ (fun e=> ?_)
         rw[e.1,e.2,h0] at hj;simp at hj
     have R2:=R1.addCell (c:=⟨dep,k,0⟩) yt (.inl rfl) (by rw[Cx.lay_same];exact World.frozen?_alloc_new w v.cells t 0) (v:=v) (by rw[Cx.lay_same];rw[show ad3 w.heap.size 0=⟨w.heap.size,0,none⟩ from rfl,World.cell?_alloc_new,hvc];rfl) hn hrv'
     have R3:=R2.put hk (v:= .pointer (some (ad3 w.heap.size 0))) (y:= .ref dep k 0) rfl (l:=none) (by
       have:=RdV.ref (x:=(x.give w.heap.size (some (.box dep k))).lay dep k w.heap.size) (s:=updG s [(.cell ⟨dep,k,0⟩,yv)]) (cv:=conc ((x.give w.heap.size (some (.box dep k))).lay dep k w.heap.size) a (w.alloc (.cells v.cells t)))
         (w:=w.alloc (.cells v.cells t)) none dep k 0 (by simp[a7])
       rwa [Cx.lay_same] at this)
     exact⟨_,R3.congr (sa s _ _ _ yt),(Fr.alloc _ _).trans (Fr.lay (y7 _)),by simp,fun b hb=>Cx.give_ne _ _ yp⟩
   split at hu
   · rename_i y'
     split at hu
     · rename_i hc
       obtain⟨h1,h2,h3⟩:=hc;cases hu;exact newBox R hd hk h0 hr.d_inv h3 (by intro e;rw[e] at h1;simp at h1;omega) t (hrun _ rfl)
     · cases hu
   · split at hu
     · rename_i hnd hc
       obtain⟨h1,h2⟩:=hc;cases hu;have hn:y.isOwn=false:=by cases y<;>first|rfl|simp[V.plainV] at h2
       have hone:(a.eval X).oneCell'=true:=by
         generalize a.eval X=v at hr;cases hr<;>first|rfl| (simp[V.plainV] at h2;done)|exact absurd rfl (hnd _)|exact(hnd _ rfl).elim
       obtain⟨x',R',hF,_⟩:=one _ y rfl hone hn (hr.reloc hn);refine⟨_,_,x',.inl (hrun _ rfl),?_,hF⟩;rw[hd];exact R'
     · cases hu
end
end Go.Ev
namespace Go.Ev
open Go
section
variable {P:Program} {cfg:Cfg} {x:Cx} {N dep:Nat} {s:Get} {a:Act} {w:World}
theorem kx {o:Oper} {t:TypeId} {A X:Operand} (ho:o.op= .store t A X) {b o':Nat} (hA:a.eval A= .pointer (some (ad3 b o'))) {v:Value} (hX:a.eval X=v) {n:Nat} (hn:sizeD P t=some n) (hsz:v.cells.size=n)
  (hc:∀ j,j<n→(w.cell? ⟨b,o'+j,none⟩).isSome=true) (hf:∀ j,j<n→w.frozen? ⟨b,o'+j,none⟩=false) (h1:∀ (j:Nat) u,v.cells[j]? =some u→u.oneCell'=true):
  (execOp a.eval o).run P w= .ok .skip (w.setCells b o' v.cells.toList):=by
 have hl:v.cells.toList.length=n:=by simpa using hsz
 have hst:=run_storeCells_cells (P:=P) b o' v.cells.toList 0 w (by rw[hl];simpa using hc) (by rw[hl];simpa using hf) (fun u hu=>by
  obtain⟨j,hj⟩:=aae hu;exact h1 j u (by simpa using hj))
 simp only[Nat.add_zero] at hst;simp only[execOp,ho,Instr.storeAt,Instr.sureAddr,hA,hX,Sem.run_bind,Sem.run_pure,Result.andThen_ok,storeVar,bd hn,hsz,ne_eq,aa6,if_false];rw[hst];rfl
theorem ug:∀ (n:Nat) (d k off:Nat),alive s d k off n=true→∀ j,j<n→(s (.cell ⟨d,k,off+j⟩)).isSome=true
 |0,_,_,_,_,j,h=>by omega
 | n+1,d,k,off,h,j,hj=>by
  simp only[alive,ze] at h;cases j with
  |zero=>exact h.1
  | succ j=>
   have:=ug n d k (off+1) h.2 j yp;rw[show off+(j+1)=off+1+j by omega]
   exact this
theorem Rel.setBoxes {d k:Nat}:∀ (vs:List Value) (cs:List D) (off:Nat) (s:Get) (w:World) (_:Rel cfg x N s a w),vs.length=cs.length→(∀ j,j<cs.length→(s (.cell ⟨d,k,off+j⟩)).isSome=true)→
  (∀ (j:Nat) v c,vs[j]? =some v→cs[j]? =some c→Rd (freeB x) w v c)→x.ow (x.ad d k)=some (.box d k)→
  Rel cfg x N (updG s (db d k off (cs.map .d))) a (w.setCells (x.ad d k) off vs)
 | [],[],off,s,w,R,_,_,_,_=>R
 | v::vs,c::cs,off,s,w,R,hl,hal,h,hb=>by
  obtain⟨y0,hy0⟩:=zn.1 (hal 0 yt);have R1:=R.setBox (c:=⟨d,k,off⟩) (by simpa using hy0) (v:=v) (y:= .d c) rfl (l:=none) (.d _ _ _ (h 0 v c rfl rfl))
  have hw:=cu w (x.ad d k) off v;refine Rel.setBoxes vs cs (off+1) _ _ R1 (by simpa using hl) (fun j hj=> ?_) (fun j v' c' h1 h2=> ?_) hb
  · show(if _ then _ else _:Option V).isSome
    split
    · rfl
    · have:=hal (j+1) (by simp;omega)
      rw[show off+1+j=off+(j+1) by omega]
      exact this
  · refine(h (j+1) v' c' (by simpa using h1) (by simpa using h2)).mono (fun b o u g1 g2=>⟨g1,?_⟩)
    show(w.setCell (ad3 (x.ad d k) off) v).cell? (ad3 b o)=some u;rw[hw.cell (fun e=>by rw[freeB,e,hb] at g1;cases g1)]
    exact g2
 | [],_::_,_,_,_,_,hl,_,_,_=>by simp at hl
 |_::_,[],_,_,_,_,hl,_,_,_=>by simp at hl
def ae9 (x:Cx) (w:World) (l:Loc) (v:Value):V→Prop
 | .own _ z es=>∃ b o cap,v= .slice (some (ad3 b o)) es.length cap∧es.length≤cap∧x.ow b=some (.at l)∧Arr (freeB x) w b o cap z es
 | .d c=>Rd (freeB x) w v c∧c.isCell=true
 |_=>False
theorem Rel.relabels {d k j:Nat} (hjN:j<N):∀ (ys:List V) (vs:List Value) (off:Nat) {x:Cx} (_:Rel cfg x N s a w) (_:vs.length=ys.length) (_:∀ v,s (.slot j)=some v→v.isOwn=false)
  (_:∀ (m:Nat) v y,vs[m]? =some v→ys[m]? =some y→ae9 x w (.slot j) v y)
  (_:∀ (i j:Nat) (p q:Addr) (L C L' C':Nat) (n n':Bool) (z z':Nat) (es es':List D),i≠j→ys[i]? =some (.own n z es)→ys[j]? =some (.own n' z' es')→
     vs[i]? =some (.slice (some p) L C)→vs[j]? =some (.slice (some q) L' C')→p.block≠q.block),
  ∃ x',Rel cfg x' N s a w∧Fr dep x x' w w∧(∀ b,x.ow b≠some (.at (.slot j))→x'.ow b=x.ow b)∧x'.ad=x.ad∧∀ (m:Nat) v y,vs[m]? =some v→ys[m]? =some y→ae9 x' w (.cell ⟨d,k,off+m⟩) v y
 | [],vs,off,x,R,hl,hj,h,hd=>⟨x,R,.refl _ _ _,fun _ _=>rfl,rfl,fun m v y _ e=>by simp at e⟩
 |y0::ys,[],off,x,R,hl,hj,h,hd=>by simp at hl
 | y0::ys,v0::vs,off,x,R,hl,hj,h,hd=>by
  have h0:=h 0 v0 y0 rfl rfl;have hd':∀ (i j:Nat) (p q:Addr) (L C L' C':Nat) (n n':Bool) (z z':Nat) (es es':List D),i≠j→ys[i]? =some (.own n z es)→ys[j]? =some (.own n' z' es')→
     vs[i]? =some (.slice (some p) L C)→vs[j]? =some (.slice (some q) L' C')→p.block≠q.block:=fun i j p q L C L' C' n n' z z' es es' hne e1 e2 e3 e4=>
   hd (i+1) (j+1) p q L C L' C' n n' z z' es es' yp (by simpa using e1) (by simpa using e2) (by simpa using e3) (by simpa using e4)
  cases y0 with
  | own nw z es=>
   obtain⟨b,o,cap,rfl,q2,q3,q4⟩:=h0;have R1:=R.relabel q3 hj (fun k' e=>by cases e;exact hjN) (.cell ⟨d,k,off⟩)
   have F1:Fr dep x (x.give b (some (.at (.cell ⟨d,k,off⟩)))) w w:=Fr.give q3 _;obtain⟨x',R2,F2,g1,g2,g3⟩:=Rel.relabels hjN ys vs (off+1) R1 (by simpa using hl) hj (fun m v y e1 e2=>by
     have:=h (m+1) v y (by simpa using e1) (by simpa using e2)
     cases y with
     | own nw' z' es'=>
      obtain⟨b',o',cap',rfl,w2,w3,w4⟩:=this;have hne:=hd 0 (m+1) (ad3 b o) (ad3 b' o') _ _ _ _ nw nw' z z' es es' yp rfl (by simpa using e2) rfl (by simpa using e1)
      exact⟨b',o',cap',rfl,w2,by rw[Cx.give_ne _ _ (fun e=>hne e.symm)];exact w3,w4.mono (fun b o u hb hu=>F1.frees hb hu) (fun _ _ h=>h) (fun _ _ _ h=>h)⟩
     |d c=>exact⟨this.1.mono (fun b o u hb hu=>F1.frees hb hu),this.2⟩
     |_=>exact this) hd'
   have hF:=F1.trans F2;refine⟨x',R2,hF,fun b' hb=> ?_,g2,fun m v y e1 e2=> ?_⟩
   · have hne:b'≠b:=fun e=>hb (e ▸ q3)
     rw[g1 b' (by rw[Cx.give_ne _ _ hne];exact hb),Cx.give_ne _ _ hne]
   · cases m with
     | zero=>
      simp only[List.getElem?_cons_zero,Option.some.injEq] at e1 e2;subst e1;subst e2;refine⟨b,o,cap,rfl,q2,?_,q4.mono (fun b o u hb hu=>hF.frees hb hu) (fun _ _ h=>h) (fun _ _ _ h=>h)⟩
      rw[g1 b yt];simp
     | succ m=>
      have:=g3 m v y (by simpa using e1) (by simpa using e2)
      rw[show off+(m+1)=off+1+m by omega]
      exact this
  | d c=>
   obtain⟨x',R2,F2,g1,g2,g3⟩:=Rel.relabels hjN ys vs (off+1) R (by simpa using hl) hj (fun m v y e1 e2=>h (m+1) v y (by simpa using e1) (by simpa using e2)) hd'
   refine⟨x',R2,F2,g1,g2,fun m v y e1 e2=> ?_⟩
   cases m with
   | zero=>
     simp only[List.getElem?_cons_zero,Option.some.injEq] at e1 e2;subst e1;subst e2;exact⟨h0.1.mono (fun b o u hb hu=>F2.frees hb hu),h0.2⟩
   | succ m=>
     have:=g3 m v y (by simpa using e1) (by simpa using e2)
     rw[show off+(m+1)=off+1+m by omega]
     exact this
  |_=>exact h0.elim
theorem Rel.setRec {d k:Nat}:∀ (vs:List Value) (ys:List V) (off:Nat) (s:Get) (w:World) (_:Rel cfg x N s a w),vs.length=ys.length→(∀ j,j<ys.length→(s (.cell ⟨d,k,off+j⟩)).isSome=true)→
  (∀ (m:Nat) v y,vs[m]? =some v→ys[m]? =some y→ae9 x w (.cell ⟨d,k,off+m⟩) v y)→x.ow (x.ad d k)=some (.box d k)→∀ u,fp d k off ys=some u→
  Rel cfg x N (updG s u) a (w.setCells (x.ad d k) off vs)
 | [],[],off,s,w,R,_,_,_,_,u,hu=>by cases hu;exact R
 | v::vs,y::ys,off,s,w,R,hl,hal,h,hb,u,hu=>by
  obtain⟨y0,hy0⟩:=zn.1 (hal 0 yt);have hw:=cu w (x.ad d k) off v;have hfr:∀ b o u,freeB x b→w.cell? (ad3 b o)=some u→freeB x b∧(w.setCell (ad3 (x.ad d k) off) v).cell? (ad3 b o)=some u:=fun b o u g1 g2=>⟨g1,by
   rw[hw.cell (fun e=>by rw[freeB,e,hb] at g1;cases g1)];exact g2⟩
  have hAt:∀ (l:Loc) b o cap z es,x.ow b=some (.at l)→Arr (freeB x) w b o cap z es→Arr (freeB x) (w.setCell (ad3 (x.ad d k) off) v) b o cap z es:=fun l b o cap z es g1 g2=>by
   have hne:b≠x.ad d k:=fun e=>by rw[e,hb] at g1;cases g1
   exact g2.mono hfr (fun o u g=>by rw[hw.cell hne];exact g) (fun o u _ g=>by rw[hw.frozen hne];exact g)
  have htl:∀ (m:Nat) v' y',vs[m]? =some v'→ys[m]? =some y'→ae9 x (w.setCell (ad3 (x.ad d k) off) v) (.cell ⟨d,k,off+1+m⟩) v' y':=fun m v' y' e1 e2=>by
   have:=h (m+1) v' y' (by simpa using e1) (by simpa using e2)
   rw[show off+(m+1)=off+1+m by omega] at this
   cases y' with
   |own nw z es=>obtain⟨b,o,cap,rfl,w2,w3,w4⟩:=this;exact⟨b,o,cap,rfl,w2,w3,hAt _ _ _ _ _ _ w3 w4⟩
   |d c=>exact⟨this.1.mono hfr,this.2⟩
   |_=>exact this
  have hal':∀ (q:V) j,j<ys.length→(updG s [(.cell ⟨d,k,off⟩,q)] (.cell ⟨d,k,off+1+j⟩)).isSome=true:=fun q j hj=>by
   show(if _ then _ else _:Option V).isSome
   split
   · rfl
   · have:=hal (j+1) (by simp;omega)
     rw[show off+1+j=off+(j+1) by omega]
     exact this
  have h0:=h 0 v y rfl rfl;cases y with
  | own nw z es=>
   obtain⟨b,o,cap,rfl,w2,w3,w4⟩:=h0;simp only[Nat.add_zero] at w3;simp only[fp,yw] at hu;obtain⟨u',hu',rfl⟩:=hu;have R1:=R.setBox (c:=⟨d,k,off⟩) (by simpa using hy0) (v:= .slice (some (ad3 b o)) es.length cap) (y:= .junk) rfl (l:=none) (.junk _ _)
   have hconc:conc x a (w.setCell (ad3 (x.ad d k) off) (.slice (some (ad3 b o)) es.length cap)) (.cell ⟨d,k,off⟩)=some (.slice (some (ad3 b o)) es.length cap):=by
     obtain⟨u0,hu0,_⟩:=R.locs _ _ hy0;exact World.cell?_setCell_same _ _ _ hu0
   have R2:=R1.claim (l1:= .cell ⟨d,k,off⟩) (y1:= .junk) (by simp[a8]) w3 hconc (hAt _ _ _ _ _ _ w3 w4) rfl w2
   have R3:Rel cfg x N (updG s [(.cell ⟨d,k,off⟩,.own true z es)]) a (w.setCell (ad3 (x.ad d k) off) (.slice (some (ad3 b o)) es.length cap)):=R2.congr (fun l=>by
     simp only[a8,lu];split<;>rfl)
   exact Rel.setRec vs ys (off+1) _ _ R3 (by simpa using hl) (hal' _) htl hb u' hu'
  | d c=>
   simp only[fp] at hu;split at hu
   · simp only[yw] at hu
     obtain⟨u',hu',rfl⟩:=hu;have R1:=R.setBox (c:=⟨d,k,off⟩) (by simpa using hy0) (v:=v) (y:= .d c) rfl (l:=none) (.d _ _ _ h0.1)
     exact Rel.setRec vs ys (off+1) _ _ R1 (by simpa using hl) (hal' _) htl hb u' hu'
   · cases hu
  |_=>exact h0.elim
 | [],_::_,_,_,_,_,hl,_,_,_,_,_=>by simp at hl
 |_::_,[],_,_,_,_,hl,_,_,_,_,_=>by simp at hl
theorem nf {d k:Nat}:∀ {ys:List V} {off:Nat} {u:List (Loc×V)},fp d k off ys=some u→∀ y∈ys,(∃ c,y= .d c∧c.isCell=true)∨∃ nw z es,y= .own nw z es
 | [],_,_,_,y,hy=>by simp at hy
 | .d c::r,off,u,h,y,hy=>by
  simp only[fp] at h;split at h
  · rename_i hc
    simp only[yw] at h;obtain⟨u',h,_⟩:=h;rcases zr.1 hy with rfl|hy
    · exact .inl ⟨c,rfl,hc⟩
    · exact nf h y hy
  · cases h
 | .own nw z es::r,off,u,h,y,hy=>by
  simp only[fp,yw] at h;obtain⟨u',h,_⟩:=h;rcases zr.1 hy with rfl|hy
  · exact .inr ⟨nw,z,es,rfl⟩
  · exact nf h y hy
 | .bor _ _ _::_,_,_,h,_,_| .bref _ _ _::_,_,_,h,_,_| .iptr _ _::_,_,_,h,_,_| .ref _ _ _::_,_,_,h,_,_| .clo _ _ _::_,_,_,h,_,_
 | .ifc _ _::_,_,_,h,_,_| .vec _::_,_,_,h,_,_| .vref _::_,_,_,h,_,_| .rcd _::_,_,_,h,_,_| .junk::_,_,_,h,_,_=>by cases h
theorem Fr.setBoxes {d k:Nat} (hb:x.ow (x.ad d k)=some (.box d k)) (o:Nat) (vs:List Value):Fr dep x x w (w.setCells (x.ad d k) o vs):=
 ⟨by rw[ig];exact y7 _,fun b' _ h=>⟨d6 _ _ _ _ (fun e=>by rw[e,hb] at h;simp at h),rfl⟩,fun _ _ _=>rfl,li _ _ _ _,(bq _ _ _ _).room,rfl⟩
theorem dw {s':Get} {o:Oper} {x':Cx} {w':World} (hd:o.dst=none) (hrun:(execOp a.eval o).run P w= .ok .skip w') (R:Rel cfg x' N s' a w') (hF:Fr dep x x' w w'):Goes P cfg x N dep s' a w o:=
 ⟨undef,w',x',.inr ⟨hrun,rfl⟩,by rw[hd];exact R,hF⟩
theorem afn {e e':D} {off:Nat} {cs:List D} (h:e.setAt off cs=some e') (hc:∀ c∈cs,c.isCell=true) (hne:cs≠[]) (he:∀ c∈e.cells,c.isCell=true):
   off+cs.length≤e.cells.length∧e'.cells.length=e.cells.length∧∀ m,e'.cells[m]? =if off≤m∧m<off+cs.length then cs[m-off]? else e.cells[m]? :=by
 unfold D.setAt at h;split at h
 · rename_i hb
   split at h
   · rename_i es
     cases h;obtain⟨g1,g2⟩:=jd cs es off hb;exact⟨hb,g1,g2⟩
   · rename_i hna
     have hcells:e.cells=[e]:=by cases e<;>first|rfl|exact absurd rfl (hna _)
     rw[hcells] at hb;simp at hb;split at h
     · exact absurd rfl hne
     · rename_i c r
       split at h
       · cases h
         simp at hb;have hr:r=[]:=by apply z8;omega
         have ho:off=0:=yp;subst hr;subst ho;have hec:∀ d:D,d.isCell=true→d.cells=[d]:=fun d h=>by cases d<;>first|rfl|simp[D.isCell] at h
         have:=hec e' (hc e' yt);rw[this,hcells];refine⟨by simp,rfl,fun m=> ?_⟩
         cases m with
         |zero=>simp
         |succ m=>simp
       · cases h
 · cases h
theorem axn (R:Rel cfg x N s a w) {o:Oper} {t:TypeId} {A X:Operand} (ho:o.op= .store t A X) (hd:o.dst=none) {n:Nat} (hn:sizeD P t=some n) {p q:IOpd} (hA:cOpd A=some p) (hX:cOpd X=some q) {ya yx:V} (hya:val cfg s p=some ya) (hyx:val cfg s q=some yx)
   {u:List (Loc×V)} (hu:br s n ya q yx=some u):Goes P cfg x N dep (updG s u) a w o:=by
 obtain⟨la,hra,_⟩:=a6 R hA hya;obtain⟨lx,hrx,hlx⟩:=a6 R hX hyx;generalize hva:a.eval A=va at hra;unfold br at hu;split at hu
 ·
   rename_i d k off;split at hu
   · rename_i hal
     have hsp:=ug n d k off hal;cases hra with
     |ref _ _ _ _ h00=>
     have hbx:∀ j,j<n→x.ow (x.ad d k)=some (.box d k)∧w.frozen? (ad3 (x.ad d k) (off+j))=false∧(w.cell? (ad3 (x.ad d k) (off+j))).isSome=true:=fun j hj=>by
       obtain⟨y0,hy0⟩:=zn.1 (hsp j hj);obtain⟨q1,q2,q3⟩:=R.box _ _ hy0;obtain⟨u0,hu0,_⟩:=R.locs _ _ hy0;refine⟨q1,q3,?_⟩;have:w.cell? (ad3 (x.ad d k) (off+j))=some u0:=hu0;rw[this];rfl
     have hrun:∀ v,a.eval X=v→v.cells.size=n→(∀ (j:Nat) u,v.cells[j]? =some u→u.oneCell'=true)→(execOp a.eval o).run P w= .ok .skip (w.setCells (x.ad d k) off v.cells.toList):=fun v e h1 h2=>
       kx ho hva e hn h1 (fun j hj=>(hbx j hj).2.2) (fun j hj=>(hbx j hj).2.1) h2
     have one:∀ v,a.eval X=v→v.oneCell'=true→n=1→(execOp a.eval o).run P w= .ok .skip (w.setCell (ad3 (x.ad d k) off) v):=fun v e h1 h2=>by
       have hvc:v.cells= #[v]:=by cases v<;>first|rfl|simp[Value.oneCell'] at h1
       have:=hrun v e (by rw[hvc];simp[h2]) (fun j u hu=>by rw[hvc] at hu;cases j with|zero=>simp at hu;subst hu;exact h1|succ j=>simp at hu)
       rw[hvc] at this;exact this
     have hown:∀ l0 nw z es0 es b o' cap,n=1→s l0=some (.own nw z es0)→x.ow b=some (.at l0)→Arr (freeB x) w b o' cap z es→es.length≤cap→a.eval X= .slice (some (ad3 b o')) es.length cap→
         (if Loc.cell ⟨d,k,off⟩=l0 then some [(l0,V.own true z es)] else some [(.cell ⟨d,k,off⟩,V.own true z es),(l0,.junk)])=some u→Goes P cfg x N dep (updG s u) a w o:=by
       intro l0 nw z es0 es b o' cap h1 h2 h3 h4 h5 h6 h7;subst h1;obtain⟨y0,hy0⟩:=zn.1 (hsp 0 yp);have hy0':s (.cell ⟨d,k,off⟩)=some y0:=hy0;have hb1:=(hbx 0 yp).1;have R1:=R.setBox (c:=⟨d,k,off⟩) hy0' (v:= .slice (some (ad3 b o')) es.length cap) (y:= .junk) rfl (l:=none) (.junk _ _);have hw:=cu w (x.ad d k) off (.slice (some (ad3 b o')) es.length cap);have hbne:b≠x.ad d k:=fun e=>by rw[e,hb1] at h3;cases h3
       have hA':Arr (freeB x) (w.setCell (ad3 (x.ad d k) off) (.slice (some (ad3 b o')) es.length cap)) b o' cap z es:=by
         refine h4.mono (fun b2 o2 u g1 g2=>⟨g1,?_⟩) (fun o2 u g=>by rw[hw.cell hbne];exact g) (fun o2 u _ g=>by rw[hw.frozen hbne];exact g)
         rw[hw.cell (fun e=>by rw[freeB,e,hb1] at g1;cases g1)];exact g2
       have hconc:conc x a (w.setCell (ad3 (x.ad d k) off) (.slice (some (ad3 b o')) es.length cap)) (.cell ⟨d,k,off⟩)=some (.slice (some (ad3 b o')) es.length cap):=by
         obtain⟨u0,hu0,_⟩:=R.locs _ _ hy0';exact World.cell?_setCell_same _ _ _ hu0
       have hr:=one _ h6 rfl rfl;have hF:=Fr.setBox (dep:=dep) (w:=w) hb1 off (.slice (some (ad3 b o')) es.length cap);split at h7
       · rename_i e
         cases h7;subst e;have R2:=R1.claim (l1:= .cell ⟨d,k,off⟩) (y1:= .junk) (by simp[a8]) h3 hconc hA' rfl h5
         refine dw hd hr (R2.congr (fun l=> ?_)) hF
         simp only[a8,lu];split<;>rfl
       · rename_i e
         cases h7;have R2:=R1.reown (l0:=l0) (l1:= .cell ⟨d,k,off⟩) (fun e'=>e e'.symm) (nw:=nw) (z:=z) (es:=es0) (y1:= .junk) (by rw[a7,if_neg (fun e'=>e e'.symm)];exact h2) (by simp[a8]) h3 hconc hA' rfl h5
         refine dw hd hr (R2.congr (fun l=> ?_)) (hF.trans (Fr.give h3 _))
         simp only[a8,lu];by_cases e1:l=l0
         · simp[e1]
         · by_cases e2:l= .cell ⟨d,k,off⟩<;>simp[e1,e2]
     split at hu
     · rename_i j nw z es
       split at hu
       · rename_i h1
         obtain⟨hl1,rfl⟩:=hlx j rfl;have he:s (.slot j)=some (.own nw z es):=hyx;obtain⟨b,o',cap,q1,q2,q3,q4⟩:=R.own_at he;exact hown _ nw z es es b o' cap h1 he q2 q4 q3 (by simpa[conc,Act.eval] using q1) (by rw[if_neg yt];exact hu)
       · cases hu
     · rename_i j ys
       split at hu
       · rename_i hq
         obtain⟨h1,h2⟩:=hq;simp only[yw] at hu;obtain⟨u',hu',rfl⟩:=hu;obtain⟨hl1,rfl⟩:=hlx j rfl;have he:s (.slot j)=some (.rcd ys):=hyx;obtain⟨v,hv,hr⟩:=R.locs _ _ he;have hv':a.eval (.tmp j)=v:=by simpa[conc,Act.eval] using hv
         cases hr with
         |rcd _ vs _ hvl hvr hvd=>
         have hall:=nf hu';have hsl:∀ (m:Nat) v y,vs[m]? =some v→ys[m]? =some y→ae9 x w (.slot j) v y:=fun m v y e1 e2=>by
           have:=hvr m v y e1 e2;rcases hall y (List.mem_of_getElem? e2) with⟨c,rfl,hc⟩|⟨nw,z,es,rfl⟩
           · exact⟨this.d_inv,hc⟩
           · cases this with
             |own _ b o len cap _ _ _ how hlen hcap A=>exact⟨b,o,cap,by rw[hlen],by omega,how,A⟩
         have hone:∀ (m:Nat) v,vs[m]? =some v→v.oneCell'=true:=fun m v e1=>by
           have hm:m<ys.length:=by rw[← hvl];exact(y4.1 e1).1
           have:=hsl m v _ e1 (yy hm);rcases hall ys[m] (List.getElem_mem hm) with⟨c,hc1,hc⟩|⟨nw,z,es,hc1⟩
           · rw[hc1] at this;exact this.1.oneCell this.2
           · rw[hc1] at this;obtain⟨b,o,cap,rfl,_⟩:=this;rfl
         have hr:=hrun _ hv' (by simp[Value.cells,hvl,h1]) (fun m u hm=>hone m u (by simpa[Value.cells] using hm))
         have R0:=R.forget (l0:= .slot j) (by rw[he];rfl)
         obtain⟨x',R1,F1,g1,g2,g3⟩:=Rel.relabels (dep:=dep) (d:=d) (k:=k) (R.slotN _ _ he) ys vs off R0 hvl (fun v hv'=>by simp only[a7,if_pos] at hv';cases hv';rfl) hsl hvd
         have hb1:=(hbx 0 yp).1;have hb2:x'.ow (x'.ad d k)=some (.box d k):=by rw[g2,g1 _ (by rw[hb1];simp)];exact hb1
         have R2:=Rel.setRec vs ys off _ w R1 hvl (fun m hm=>by
           have:=hsp m yp;rw[a7];split
           · rfl
           · exact this) g3 hb2 u' hu'
         rw[g2] at R2;have e2:(Value.agg vs.toArray).cells.toList=vs:=by simp[Value.cells]
         rw[e2] at hr;exact dw hd hr R2 (F1.trans (by have:=Fr.setBoxes (dep:=dep) (w:=w) hb2 off vs;rw[g2] at this;exact this))
       · cases hu
     · rename_i l o2 m
       split at hu
       · rename_i z es hs0
         split at hu
         · rename_i hq
           obtain⟨rfl,rfl,h1⟩:=hq;obtain⟨b,o',cap',q1,q2,q3,q4,q5⟩:=R.bor_at hrx hs0;simp only[List.drop_zero,List.take_length] at q5;exact hown _ false z es es b o' cap' h1 hs0 q2 q5 q4 q1 hu
         · cases hu
       · cases hu
     · rename_i y
       split at hu
       · rename_i hq
         obtain⟨h1,h2⟩:=hq;cases hu;obtain⟨c1,c2,c3⟩:=hrx.d_inv.cells h2;by_cases hn0:n=0
         · subst hn0
           have e1:y.cells=[]:=z8 h1;have e2:(a.eval X).cells.toList=[]:=z8 (by simpa[c1] using h1)
           have hr:=hrun _ rfl yp (fun j u hu=>by have:=(zj.1 hu).1;omega)
           rw[e2] at hr;rw[e1];exact dw hd hr R (Fr.refl _ _ _)
         · have hb1:=(hbx 0 yp).1
           have hr:=hrun _ rfl yp (fun j u hu=>by
             have hj:j<y.cells.length:=by rw[← c1];exact(zj.1 hu).1
             exact(c3 j u _ hu (yy hj)).2)
           refine dw hd hr (Rel.setBoxes _ y.cells off s w R (by simpa using c1) (fun j hj=>hsp j yp) (fun j v c g1 g2=>(c3 j v c (by simpa using g1) g2).1) hb1) (Fr.setBoxes hb1 off _)
       · cases hu
     · rename_i hno hnb hnd
       split at hu
       · rename_i hq
         obtain⟨h1,h2⟩:=hq;cases hu;subst h1;obtain⟨y0,hy0⟩:=zn.1 (hsp 0 yp);have hy0':s (.cell ⟨d,k,off⟩)=some y0:=hy0;have hn1:yx.isOwn=false:=by cases yx<;>first|rfl|simp[V.plainV] at h2
         have hone:(a.eval X).oneCell'=true:=by
           generalize a.eval X=v at hrx;cases hrx<;>first|rfl| (simp[V.plainV] at h2;done)|exact(hnd _ rfl).elim|exact(hnb _ rfl).elim|exact(hno _ rfl).elim
         exact dw hd (one _ rfl hone rfl) (R.setBox (c:=⟨d,k,off⟩) hy0' hn1 hrx) (Fr.setBox (hbx 0 yp).1 off _)
       · cases hu
   · cases hu
 ·
   rename_i l i off;split at hu
   · rename_i z es y hs0 hy
     split at hu
     · rename_i hq
       obtain⟨h1,h2⟩:=hq;simp only[y8,yw] at hu;obtain⟨e,he,e',he',rfl⟩:=hu;have hdat:dat cfg s q=some y:=by simp[dat,hyx,hy]
       have hry:=qu R hX hdat;obtain⟨c1,c2,c3⟩:=hry.cells h2;cases hra with
       |bref _ _ _ _ b o' h=>
       obtain⟨o2,L,C,f1,f2⟩:=h _ _ hs0;obtain⟨b2,o3,cap,q1,q2,q3,q4⟩:=R.own_at hs0;rw[f1] at q1;cases q1;have hcel:=q4.cel e (List.mem_of_getElem? he);by_cases hn0:y.cells=[]
       ·
         have e2:(a.eval X).cells.toList=[]:=z8 (by simpa[hn0] using c1)
         have hn00:n=0:=by rw[← h1,hn0];rfl
         subst hn00;have hr:=kx (w:=w) (P:=P) ho hva rfl hn (by simpa[hn0] using c1) (by intro j hj;omega) (by intro j hj;omega) (fun j u hu=>by have:=(zj.1 hu).1;simp[hn0] at c1;simp[c1] at this)
         rw[e2] at hr;have hee:e'=e:=by
           rw[hn0] at he';unfold D.setAt at he';split at he'
           · split at he'
             · cases he';rfl
             · cases he';rfl
           · cases he'
         subst hee;have hset:es.set i e'=es:=by
           apply List.ext_getElem?;intro m;rw[List.getElem?_set];split
           · rename_i hm
             subst hm;split
             · exact he.symm
             · rename_i hlt
               have:=(y4.1 he).1;exact absurd this hlt
           · rfl
         rw[hset];exact dw hd hr (R.congr (fun l'=>by rw[a7];split<;>simp_all)) (Fr.refl _ _ _)
       · obtain⟨g1,g2,g3⟩:=afn he' c2 hn0 hcel
         have hi:=(y4.1 he).1;have hwid:=q4.wid e (List.mem_of_getElem? he);have hlt:∀ m,m<z→i*z+m<es.length*z:=fun m hm=>tj hi hm
         have hle:es.length*z≤C*z:=zu z q3;have hn1:n≤z:=yp;have hr:=kx (w:=w) (P:=P) ho hva rfl hn yp (fun j hj=>by
             obtain⟨⟨u,hu⟩,_⟩:=q4.room (i*z+(off+j)) (by have:=hlt (off+j) yp;omega)
             rw[f2,show o2+i*z+off+j=o2+(i*z+(off+j)) by omega]
             have hu':w.cell? ⟨b,o2+(i*z+(off+j)),none⟩=some u:=hu;rw[hu'];rfl) (fun j hj=>by
             obtain⟨_,hf⟩:=q4.room (i*z+(off+j)) (by have:=hlt (off+j) yp;omega)
             rw[f2,show o2+i*z+off+j=o2+(i*z+(off+j)) by omega]
             exact hf) (fun j u hu=>by
             have hj:j<y.cells.length:=by rw[← c1];exact(zj.1 hu).1
             exact(c3 j u _ hu (yy hj)).2)
         have hw:=bq w b o' (a.eval X).cells.toList;have hvl:(a.eval X).cells.toList.length=n:=by simpa[h1] using c1
         have hfree:∀ b2 o4 u,freeB x b2→w.cell? (ad3 b2 o4)=some u→freeB x b2∧(w.setCells b o' (a.eval X).cells.toList).cell? (ad3 b2 o4)=some u:=fun b2 o4 u p1 p2=>
           ⟨p1,by rw[hw.cell (fun e=>by rw[freeB,e,q2] at p1;cases p1)];exact p2⟩
         have hA2:Arr (freeB x) (w.setCells b o' (a.eval X).cells.toList) b o2 C z (es.set i e'):=by
           refine⟨q4.pos,fun j hj=> ?_,fun d hd'=> ?_,fun d hd'=> ?_,fun i2 d hd' j c hj=> ?_⟩
           · obtain⟨⟨u,hu⟩,hf⟩:=q4.room j hj
             exact⟨hw.keep _ _ hu,by rw[hw.froz _ ⟨u,hu⟩];exact hf⟩
           · rcases aap hd' with h|rfl
             · exact q4.wid d h
             · omega
           · rcases aap hd' with h|rfl
             · exact q4.cel d h
             · intro c hc
               obtain⟨m,hm⟩:=aae hc;rw[g3] at hm;split at hm
               · exact c2 c (List.mem_of_getElem? hm)
               · exact hcel c (List.mem_of_getElem? hm)
           · by_cases ei:i2=i
             · subst ei
               rw[List.getElem?_set_self hi] at hd';cases hd';rw[g3] at hj;split at hj
               · rename_i hin
                 have hlt2:j-off<(a.eval X).cells.toList.length:=by rw[hvl];omega
                 have hget:=World.cell?_setCells_in b (a.eval X).cells.toList o' w (fun m hm=>by
                  obtain⟨⟨u,hu⟩,_⟩:=q4.room (i2*z+(off+m)) (by have:=hlt (off+m) yp;omega)
                  rw[f2,show o2+i2*z+off+m=o2+(i2*z+(off+m)) by omega]
                  have hu':w.cell? ⟨b,o2+(i2*z+(off+m)),none⟩=some u:=hu;rw[hu'];rfl) (j-off) hlt2
                 have hsz:j-off<(a.eval X).cells.size:=by simpa using hlt2
                 refine⟨(a.eval X).cells[j-off],?_,(c3 (j-off) _ c (zm hsz) hj).1.mono hfree⟩;rw[show ad3 b (o2+i2*z+j)=⟨b,o'+(j-off),none⟩ by simp only[ad3,f2];congr 1;omega,hget]
                 simp
               · rename_i hout
                 obtain⟨v,p1,p2⟩:=q4.els i2 e he j c hj;refine⟨v,bn p1 (fun _=> ?_),p2.mono hfree⟩
                 rw[hvl,f2];omega
             · rw[List.getElem?_set_ne (Ne.symm ei)] at hd'
               obtain⟨v,p1,p2⟩:=q4.els i2 d hd' j c hj;have hjz:j<z:=by rw[← q4.wid d (List.mem_of_getElem? hd')];exact(y4.1 hj).1
               refine⟨v,bn p1 (fun _=> ?_),p2.mono hfree⟩
               rw[hvl,f2];rcases Nat.lt_or_gt_of_ne ei with h|h
               · have:(i2+1)*z≤i*z:=zu z h
                 rw[aaf] at this;omega
               · have:(i+1)*z≤i2*z:=zu z h
                 rw[aaf] at this;omega
         exact dw hd hr (R.write hs0 f1 q2 hw hA2 yt rfl q3) (Fr.write q2 hw)
     · cases hu
   · cases hu
 · cases hu
end
