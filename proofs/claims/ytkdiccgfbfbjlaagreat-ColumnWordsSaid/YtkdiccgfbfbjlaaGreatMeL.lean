import Derived.Test.YtkdiccgfbfbjlaaGreatMeJ
import Derived.Laws.IdiomStrings
import Derived.Laws.MakeOwn
import Derived.Great.BuildSlice
namespace Go.Me
open Go
variable [Gam]
set_option linter.unusedSectionVars false
set_option linter.unusedSimpArgs false
set_option linter.unusedVariables false
section
variable {C:Cfg} {base:Nat} {ν:Nm} {g:Gt} {n:Nat} {w:World} {H:Hp} {s:Tr M} {a:Act}
theorem j2:∀ (l:List M) (i:Nat) (t:Tr M) (j:Nat),(trOf i t l).get j=if j<i then t.get j else match l[j-i]? with
  |some x=>some x
  |none=>t.get j
 | [],i,t,j=>by simp[trOf]
 | x::l,i,t,j=>by
  rw[trOf,j2 l (i+1) (t.put i x) j,Tr.get_put];by_cases h1:j<i
  · rw[if_pos h1,if_pos (by omega),if_neg (by omega)]
  · rw[if_neg h1]
    by_cases h2:j=i
    · subst h2;rw[if_pos (by omega),if_pos rfl];simp
    · rw[if_neg (by omega),if_neg h2,show j-i=(j-(i+1))+1 by omega]
      simp
theorem cells_at {k:Nat} {ex:Nat} {d:M} {t:Tr M} {i:Nat} {x:M} (h:(Ob.cells k ex d t).at i=some x):i<k∧x=(t.get i).getD d:=by
 unfold Ob.at at h;obtain⟨h1,h2⟩:=gw h;refine⟨h1,?_⟩;cases e:t.get i<;>rw[e] at h2<;>cases h2<;>rfl
theorem obOf_at {ex:Nat} {l:List M} {i:Nat} {x:M} (h:(obOf ex l).at i=some x):l[i]? =some x:=by
 obtain⟨h1,h2⟩:=cells_at h;rw[j2] at h2;rw[if_neg (by omega)] at h2
 simp only[Nat.sub_zero,List.getElem?_eq_getElem h1,Option.getD_some] at h2;rw[List.getElem?_eq_getElem h1,h2]
theorem vy {ρ:Nat} {l:List M} {vs:Array Value} (h:VRs ν l vs.toList) (e:TypeId):OR ν (ρ,0) (obOf 0 l) (.cells vs e):=by
 refine .cells _ _ _ _ vs e (0,0) (by have:=h.1;simp at this;omega) ⟨fun _=>by have:=h.1;simp at this;omega,by simp⟩ (.inl rfl) fun i x hi=> ?_
 obtain⟨v,h1,h2⟩:=h.get (obOf_at hi);exact⟨v,by simpa using h1,h2⟩
def Made (P:Program) (ν:Nm) (w:World) (q:World→Value→Prop) (ob:Ob) (f:Nat→M):Prop:=
 ∃ (w1:World) (obj:Obj) (v:Value) (ρ:Nat),q (w1.alloc obj) v∧w1.heap=w.heap∧(w1.os=w.os∧w1.tape=w.tape∧w1.output=w.output)∧OR ν (ρ,0) ob obj∧ob.live=true∧∀ (ν':Nm) b,ν' b=some w.heap.size→ν'.rm b=(ρ,0)→VR ν' (f b) v
theorem ayg (z:List M):∀ (n i:Nat),i<n*z.length→(rep z n)[i]? =z[i % z.length]?
 |0,i,h=>by omega
 | n+1,i,h=>by
  have hz:0<z.length:=by
    cases hz:z.length with
    |zero=>rw[hz] at h;omega
    |succ k=>omega
  rw[rep];by_cases h1:i<z.length
  · rw[List.getElem?_append_left h1,Nat.mod_eq_of_lt h1]
  · rw[List.getElem?_append_right (by omega),ayg z n (i-z.length) (by rw[Nat.add_mul,Nat.one_mul] at h;omega)]
    congr 1
    exact(Nat.mod_eq_sub_mod (by omega)).symm
theorem ux (z:List M):∀ n:Nat,(rep z n).length=n*z.length
 |0=>by simp[rep]
 |n+1=>by rw[rep,List.length_append,ux z n,Nat.succ_mul,Nat.add_comm]
theorem rep_vr {z:List M} {zs:Array Value} (h:VRs ν z zs.toList) (n:Nat):VRs ν (rep z n) ((Array.range (n*zs.size)).map fun i=>zs[i % zs.size]!).toList:=by
 have hl:z.length=zs.size:=by have:=h.1;simpa using this
 refine⟨by rw[ux,hl];simp,fun i x v h1 h2=> ?_⟩
 have hi:i<n*z.length:=by rw[← ux];exact(List.getElem?_eq_some_iff.1 h1).1
 rw[ayg z n i hi] at h1;have hz:0<zs.size:=by
  rw[← hl];cases hz:z.length with
  |zero=>rw[hz] at hi;omega
  |succ k=>omega
 have hm:i % zs.size<zs.size:=Nat.mod_lt _ hz;simp only[Array.getElem?_toList,Array.getElem?_map,Array.getElem?_range,Option.map_eq_some_iff] at h2;obtain⟨j,hj,h2⟩:=h2;have hj':j=i:=by
  split at hj<;>simp at hj;omega
 subst hj';rw[hl] at h1;refine h.2 (j % zs.size) x v h1 ?_;rw[← h2];simp[hm]
theorem a2z (w:World) {ν':Nm} {b ρ:Nat} (h:ν' b=some w.heap.size) (hr:ν'.rm b=(ρ,0)):VR ν' (.ptr b 0) (.pointer (some ⟨w.heap.size,0,none⟩)):= .ptr0 h (by rw[hr])
theorem repv (v:Value) {zs:List M} {z m:Nat} (h4:VRs ν zs v.cells.toList) (hsz:v.cells.size=z):VRs ν (rep zs m) (madeCells v.cells (m*z)).toList:=by
 have:=rep_vr h4 m;rw[hsz] at this;unfold madeCells;rw[hsz];exact this
set_option maxHeartbeats 2000000 in
theorem vz (S:SR ν s a) {o:Oper} {t e:TypeId} {m z:Nat} {ps:Array (Nat×Operand)} (ho:o.op= .buildSlice t m ps) {l:List (Nat×M)} (hl:parts2 s ps.toList=some l) (hu:und C t=some (.slice e)) (hz:size C e=some z)
   (h1:m*z≤16777216) {zs cs:List M} (hzs:(bif m*z==0 then some [] else(match zero C e with|some zv=>some (rep zv.cells m)|none=>none))=some zs) (h3:zs.length=m*z) (hcs:fillM (fun i=>some (i*z,z)) zs l=some cs):
   Made C.P ν w (fun w' v=>(execOp a.eval o).run C.P w= .ok (.value v) w') (obOf 0 cs) (fun b=> .sl b 0 m (some m)):=by
 obtain⟨q1,q2⟩:=qe S hl;obtain⟨ie,hie,hse⟩:=ly hz;have fillq:∀ {zv:Array Value},VRs ν zs zv.toList→∃ c',Instr.fill (fun i=>some (i*z,z)) zv (ps.map fun(i,x)=>(i,a.eval x)).toList=some c'∧VRs ν cs c'.toList:=fun {zv} hv=>
   wo (ν:=ν) (place:=fun i=>some (i*z,z)) (fun i q hq=>hq) l (ps.map fun(i,x)=>(i,a.eval x)).toList (by simpa using q1) (fun i x u e1 e2=>q2 i x u e1 (by simpa using e2)) hv hcs
 have fin:∀ c':Array Value,(Instr.buildSlice t m (ps.map fun(i,x)=>(i,a.eval x))).run C.P w= .ok (.slice (some ⟨w.heap.size,0,none⟩) m m) (w.alloc (.cells c' e))→VRs ν cs c'.toList→Made C.P ν w (fun w' v=>(execOp a.eval o).run C.P w= .ok (.value v) w') (obOf 0 cs) (fun b=> .sl b 0 m (some m)):=fun c' hr hv=>
   ⟨w,.cells c' e,.slice (some ⟨w.heap.size,0,none⟩) m m,0,bg (q:=Instr.buildSlice t m (ps.map fun(i,x)=>(i,a.eval x))) (by simp only[execOp,ho]) hr,rfl,⟨rfl,rfl,rfl⟩,vy hv e,rfl,fun ν' b hb hr'=> .sl0 hb (by rw[hr']) (Nat.le_refl _) (fun k hk=>by cases hk;rfl) (fun h=>by cases h)⟩
 have h1':¬ (m*z>2 ^ 24):=by rw[show(2:Nat) ^ 24=16777216 from rfl];omega
 by_cases h0:m*z=0
 · have:zs=[]:=List.eq_nil_of_length_eq_zero (by rw[h3,h0])
   subst this;obtain⟨c',f1,f2⟩:=fillq (zv:= #[]) .nil;refine fin c' ?_ f2;have hsz:=aw (w:=w) hz;have f1':Instr.fill (fun i=>some (i*z,z)) #[] (List.map (fun x=>(x.1,a.eval x.2)) ps.toList)=some c':=by simpa using f1
   simp[Instr.buildSlice,ab hu,hsz,h0,newRow,f1',Array.range_zero']
 · rw[show(m*z==0)=false by simpa using h0] at hzs
   simp only[cond_false] at hzs;split at hzs
   · rename_i zv hzv
     cases hzs;obtain⟨i,v,g1,g2,g3,g4⟩:=lr (ν:=ν) hzv;rw[hie] at g1;cases g1;have hsz:v.cells.size=z:=by
      rw[ux] at h3;have hm:0<m:=Nat.pos_of_ne_zero (fun e=>h0 (by rw[e,Nat.zero_mul]))
      have:=Nat.eq_of_mul_eq_mul_left hm h3;rw[← this];have:=g4.1;simpa using this.symm
     obtain⟨c',f1,f2⟩:=fillq (repv v (z:=z) (m:=m) g4 hsz);refine fin c' (run_buildSlice w t e m _ c' ie v hu hie g2 (by rw[hse];exact h1') (by rw[hse];exact h0) ?_) f2
     rw[hse];exact f1
   · cases hzs
theorem ady (S:SR ν s a) {o:Oper} {t e:TypeId} {L K:Operand} (ho:o.op= .makeSlice t L K) {il ik:IntKind} {m k:Nat} (hL:val s L=some (.int il (.ofNat m))) (hK:val s K=some (.int ik (.ofNat k))) (hu:und C t=some (.slice e))
   {i:TypeInfo} (hi:C.P.info? e=some i) (h1:m≤k) (h2:i.bytes*k≤281474976710656) (h3:k≤4294967296) {zv:M} (hzv:zero C e=some zv) {ob:Ob}
   (hob:madeOb i.size zv k=some ob):
   Made C.P ν w (fun w' v=>(execOp a.eval o).run C.P w= .ok (.value v) w') ob (fun b=> .sl b 0 m (some k)):=by
 have vl:=ai S hL;have vk:=ai S hK;generalize eL:a.eval L=uL at vl;generalize eK:a.eval K=uK at vk;cases vl;cases vk;obtain⟨i',v,g1,g2,g3,g4⟩:=lr (ν:=ν) hzv;rw[hi] at g1;cases g1;have hb:(i.bytes:Int)*((k:Nat):Int)≤281474976710656:=by rw[← Int.natCast_mul];exact Int.ofNat_le.2 h2
 have run:=run_make (P:=C.P) w t e i v hu hi g2 il ik (Int.ofNat m) (Int.ofNat k) (Int.natCast_nonneg _) (Int.ofNat_le.2 h1) hb (Int.le_trans (Int.ofNat_le.2 h3) (by decide))
 simp only[Int.ofNat_eq_natCast,Int.toNat_natCast] at run;have fin:∀ ob',OR ν (0,0) ob' (.cells (madeCells v.cells (k*i.size)) e)→ob'.live=true→ob=ob'→Made C.P ν w (fun w' v=>(execOp a.eval o).run C.P w= .ok (.value v) w') ob (fun b=> .sl b 0 m (some k)):=fun ob' q1 q2 e1=>by
   subst e1;exact⟨w,_,_,0,bg (q:=Instr.makeSlice t (a.eval L) (a.eval K)) (by simp only[execOp,ho]) (by rw[eL,eK];exact run),rfl,⟨rfl,rfl,rfl⟩,q1,q2,fun ν' b hb hr'=> .sl0 hb (by rw[hr']) h1 (fun k hk=>by cases hk;rfl) (fun h=>by cases h)⟩
 unfold madeOb at hob;cases h1':i.size==1
 · rw[h1'] at hob
   simp only[cond_false] at hob;obtain⟨h5,h6⟩:=and1 hob;cases h6;have h5:zv.cells.length=i.size:=by simpa using h5
   have hsz:v.cells.size=i.size:=by have:=g4.1;simp at this;omega
   exact fin _ (vy (repv v g4 hsz) e) rfl rfl
 · rw[h1'] at hob
   simp only[cond_true] at hob;have h1':i.size=1:=by simpa using h1'
   have hna:∀ l,zv≠ .agg l:=fun l e=>by subst e;cases hob
   have hob':ob= .cells k 0 zv .lf:=by
    split at hob
    · exact absurd rfl (hna _)
    · cases hob;rfl
   have hc:zv.cells=[zv]:=by cases zv<;>first|rfl|exact absurd rfl (hna _)
   refine fin (.cells k 0 zv .lf) ?_ rfl hob';rw[hc] at g4;obtain⟨u,r,g5,g6,g7⟩:=g4.inv_cons;rw[g7.inv_nil] at g5;have hsz:v.cells= #[u]:=by apply Array.ext';simp[g5]
   rw[h1',Nat.mul_one,hsz];refine .cells k 0 zv .lf _ e (0,0) (by simp[size_madeCells]) ⟨fun _=>by simp[size_madeCells],by simp⟩ (.inl rfl) fun j x hj=> ?_
   obtain⟨hj1,hj2⟩:=cells_at hj;simp only[Tr.get,Option.getD_none] at hj2;subst hj2;exact⟨u,by simp[madeCells,hj1,Nat.mod_one],g6⟩
theorem mk_str (S:SR ν s a) {o:Oper} {src dst e:TypeId} {X:Operand} (ho:o.op= .convert src dst X) {l:List UInt8} (hX:val s X=some (.str l)) (hs:und C src=some .string) (hd:und C dst=some (.slice e)) (he:und C e=some (.int .u8)):
  Made C.P ν w (fun w' v=>(execOp a.eval o).run C.P w= .ok (.value v) w') (.cells l.length 1 .nilP (trOf 0 .lf (l.map fun c=> .int .u8 c.toNat))) (fun b=> .sl b 0 l.length none):=by
 have:=ai S hX;generalize e1:a.eval X=u at this;cases this;have e2:(⟨l.toArray⟩:ByteArray).size=l.length:=rfl;have hr:=run_bytes_of_string (P:=C.P) w src dst e ⟨l.toArray⟩ hs hd he;have hcap:l.length≤grownCap w l.length 0 e:=by unfold grownCap Question.cut;simp only;omega
 rw[e2] at hr;refine⟨w.drew,.cells (bytesRow ⟨l.toArray⟩ (grownCap w l.length 0 e)) e ((bytesRow ⟨l.toArray⟩ (grownCap w l.length 0 e)).size,(bytesRow ⟨l.toArray⟩ (grownCap w l.length 0 e)).size+1),.slice (some ⟨w.heap.size,0,none⟩) l.length (grownCap w l.length 0 e),grownCap w l.length 0 e,by simp only[execOp,ho,e1,Sem.run_bind,hr,Result.andThen_ok,Sem.run_pure],rfl,⟨rfl,rfl,rfl⟩,?_,rfl,fun ν' b hb hr=> .sl0 hb (by rw[hr]) hcap (fun k hk=>by cases hk) (fun _ _=>by rw[hr])⟩
 have hsz:(bytesRow ⟨l.toArray⟩ (grownCap w l.length 0 e)).size=grownCap w l.length 0 e:=by simp[bytesRow,e2];omega
 refine .cells _ _ _ _ _ e _ (by rw[hsz];exact hcap) ⟨(fun h=>by cases h),by rw[hsz,Nat.mul_one];exact Nat.le_refl _⟩ (.inr (Nat.le_refl _)) fun i x hi=> ?_
 obtain⟨h1,h2⟩:=cells_at hi;rw[j2,if_neg (by omega)] at h2
 simp only[Nat.sub_zero,List.getElem?_map,List.getElem?_eq_getElem h1,Option.map_some,Option.getD_some] at h2;refine⟨.int .u8 l[i].toNat,?_,by rw[h2];exact .int _ _⟩
 simp only[bytesRow];rw[Array.getElem?_append_left (by simpa using h1)]
 simp[h1]
theorem tb (S:SR ν s a) {o:Oper} {t:TypeId} {r:Option Operand} (ho:o.op= .makeMap t r) (hr:∀ X,r=some X→∃ k i kt e,val s X=some (.int k i)∧und C t=some (.map kt e)):
  Made C.P ν w (fun w' v=>(execOp a.eval o).run C.P w= .ok (.value v) w') (.map [] 0) (fun b=> .map b):=by
 refine⟨w,.map #[] 0,.map (some w.heap.size),0,bg (q:=Instr.makeMap t (r.map a.eval)) (by simp only[execOp,ho]) ?_,rfl,⟨rfl,rfl,rfl⟩,.map [] 0 [] rfl (by simp),rfl,fun ν' b hb _=> .map b _ hb⟩
 cases r with
 |none=>simp[Instr.makeMap]
 | some X=>
  obtain⟨k,i,kt,e,h1,h2⟩:=hr X rfl;have:=ai S h1;generalize e1:a.eval X=u at this;cases this;simp[Instr.makeMap,ab h2,asInt,asIntOf,e1]
theorem a30 (S:SR ν s a) {o:Oper} {ob:Ob} {f:Nat→M} (h:evMk C s o=some (ob,f)):Made C.P ν w (fun w' v=>(execOp a.eval o).run C.P w= .ok (.value v) w') ob f:=by
 unfold evMk at h;split at h
 · rename_i t ho
   split at h
   · rename_i z hz
     cases h;obtain⟨i,v,h1,h2,h3,h4⟩:=lr (ν:=ν) hz;refine⟨w,.cells v.cells t,_,0,?_,rfl,⟨rfl,rfl,rfl⟩,vy h4 t,rfl,fun ν' b hb hr'=>a2z w hb hr'⟩
     have hzv:(zeroValue t).run C.P w= .ok v w:=by simp[zeroValue,typeInfo,h1,h2]
     simp[execOp,ho,Instr.alloc,hzv,newVar,newRow]
   · cases h
 · rename_i t X ho
   split at h
   · rename_i u hu
     obtain⟨h1,h2⟩:=and1 h;cases h2;have hv:=ai S hu;refine⟨w,.cells (a.eval X).cells t,_,0,?_,rfl,⟨rfl,rfl,rfl⟩,vy (hv.cells h1) t,rfl,fun ν' b hb hr'=>a2z w hb hr'⟩
     simp[execOp,ho,Instr.box,newVar,newRow]
   · cases h
 · rename_i t m ps ho
   split at h
   · rename_i l hl
     split at h
     · rename_i e hu
       split at h
       · rename_i z hz
         obtain⟨h1,h2⟩:=and1 h;split at h2
         · rename_i zs hzs
           obtain⟨h3,h4⟩:=and1 h2;split at h4
           · rename_i cs hcs
             cases h4;exact vz S ho hl hu hz (by simpa[Nat.ble_eq] using h1) hzs (by simpa using h3) hcs
           · cases h4
         · cases h2
       · cases h
     · cases h
   · cases h
 · rename_i t L K ho
   split at h
   · rename_i il m ik k hL hK
     split at h
     · rename_i e hu
       split at h
       · rename_i i hi
         obtain⟨h1,h2,h3,h4⟩:=and3 h;split at h4
         · rename_i zv hzv
           split at h4
           · rename_i ob' hob
             cases h4;exact ady S ho hL hK hu hi (by simpa[Nat.ble_eq] using h1) (by simpa[Nat.ble_eq] using h2) (by simpa[Nat.ble_eq] using h3) hzv hob
           · cases h4
         · cases h4
       · cases h
     · cases h
   · cases h
 · rename_i t r ho
   split at h
   · cases h
     exact tb (C:=C) S ho (fun X e=>by cases e)
   · rename_i X
     split at h
     · rename_i hX hu
       cases h;exact tb S ho (fun Y e=>by cases e;exact⟨_,_,_,_,hX,hu⟩)
     · cases h
 · rename_i src dst X ho
   split at h
   · rename_i l hX
     split at h
     · rename_i e hs hd
       split at h
       · rename_i he
         cases h;exact mk_str S ho hX hs hd he
       · cases h
     · cases h
   · cases h
 · cases h
end
