import Derived.Test.YtplmdlobbfcknaaGreatDoorMeJ
import Derived.Laws.IdiomStrings
import Derived.Laws.MakeOwn
import Derived.Great.BuildSlice
namespace Go.Me
open Go
variable [Gam]
set_option linter.unusedSectionVars false
set_option linter.unusedSimpArgs false
set_option linter.unusedVariables false
section
variable {C:Cfg} {base:Nat} {ν:Nm} {g:Gt} {n:Nat} {w:World} {H:Hp} {s:Tr M} {a:Act}
theorem ku:∀ (l:List M) (i:Nat) (t:Tr M) (j:Nat),(trOf i t l).get j=if j<i then t.get j else match l[j-i]? with
  |some x=>some x
  |none=>t.get j
 | [],i,t,j=>by simp[trOf]
 | x::l,i,t,j=>by
  rw[trOf,ku l (i+1) (t.put i x) j,Tr.get_put];by_cases h1:j<i
  · rw[if_pos h1,if_pos (by omega),if_neg (by omega)]
  · rw[if_neg h1]
    by_cases h2:j=i
    · subst h2;rw[if_pos (by omega),if_pos rfl];simp
    · rw[if_neg (by omega),if_neg h2,show j-i=(j-(i+1))+1 by omega]
      simp
theorem cells_at {k:Nat} {ex:Nat} {d:M} {t:Tr M} {i:Nat} {x:M} (h:(Ob.cells k ex d t).at i=some x):i<k∧x=(t.get i).getD d:=by
 unfold Ob.at at h;obtain⟨h1,h2⟩:=i7 h;refine⟨h1,?_⟩;cases e:t.get i<;>rw[e] at h2<;>cases h2<;>rfl
theorem obOf_at {ex:Nat} {l:List M} {i:Nat} {x:M} (h:(obOf ex l).at i=some x):l[i]? =some x:=by
 obtain⟨h1,h2⟩:=cells_at h;rw[ku] at h2;rw[if_neg (by omega)] at h2
 simp only[Nat.sub_zero,List.getElem?_eq_getElem h1,Option.getD_some] at h2;rw[List.getElem?_eq_getElem h1,h2]
theorem q9 {ρ:Nat} {l:List M} {vs:Array Value} (h:VRs ν l vs.toList) (e:TypeId):OR ν (ρ,0) (obOf 0 l) (.cells vs e):=by
 refine .cells _ _ _ _ vs e (0,0) (by have:=h.1;simp at this;omega) ⟨fun _=>by have:=h.1;simp at this;omega,by simp⟩ (.inl rfl) fun i x hi=> ?_
 obtain⟨v,h1,h2⟩:=h.get (obOf_at hi);exact⟨v,by simpa using h1,h2⟩
def Made (P:Program) (ν:Nm) (w:World) (q:World→Value→Prop) (ob:Ob) (f:Nat→M):Prop:=
 ∃ (w1:World) (obj:Obj) (v:Value) (ρ:Nat),q (w1.alloc obj) v∧w1.heap=w.heap∧(w1.os=w.os∧w1.tape=w.tape∧w1.output=w.output)∧OR ν (ρ,0) ob obj∧ob.live=true∧∀ (ν':Nm) b,ν' b=some w.heap.size→ν'.rm b=(ρ,0)→VR ν' (f b) v
theorem atp (z:List M):∀ (n i:Nat),i<n*z.length→(rep z n)[i]? =z[i % z.length]?
 |0,i,h=>by omega
 | n+1,i,h=>by
  have hz:0<z.length:=by
    cases hz:z.length with
    |zero=>rw[hz] at h;omega
    |succ k=>omega
  rw[rep];by_cases h1:i<z.length
  · rw[List.getElem?_append_left h1,Nat.mod_eq_of_lt h1]
  · rw[List.getElem?_append_right (by omega),atp z n (i-z.length) (by rw[Nat.add_mul,Nat.one_mul] at h;omega)]
    congr 1
    exact(Nat.mod_eq_sub_mod (by omega)).symm
theorem v7 (z:List M):∀ n:Nat,(rep z n).length=n*z.length
 |0=>by simp[rep]
 |n+1=>by rw[rep,List.length_append,v7 z n,Nat.succ_mul,Nat.add_comm]
theorem rep_vr {z:List M} {zs:Array Value} (h:VRs ν z zs.toList) (n:Nat):VRs ν (rep z n) ((Array.range (n*zs.size)).map fun i=>zs[i % zs.size]!).toList:=by
 have hl:z.length=zs.size:=by have:=h.1;simpa using this
 refine⟨by rw[v7,hl];simp,fun i x v h1 h2=> ?_⟩
 have hi:i<n*z.length:=by rw[← v7];exact(List.getElem?_eq_some_iff.1 h1).1
 rw[atp z n i hi] at h1;have hz:0<zs.size:=by
  rw[← hl];cases hz:z.length with
  |zero=>rw[hz] at hi;omega
  |succ k=>omega
 have hm:i % zs.size<zs.size:=Nat.mod_lt _ hz;simp only[Array.getElem?_toList,Array.getElem?_map,Array.getElem?_range,Option.map_eq_some_iff] at h2;obtain⟨j,hj,h2⟩:=h2;have hj':j=i:=by
  split at hj<;>simp at hj;omega
 subst hj';rw[hl] at h1;refine h.2 (j % zs.size) x v h1 ?_;rw[← h2];simp[hm]
theorem azx (w:World) {ν':Nm} {b ρ:Nat} (h:ν' b=some w.heap.size) (hr:ν'.rm b=(ρ,0)):VR ν' (.ptr b 0) (.pointer (some ⟨w.heap.size,0,none⟩)):= .ptr0 h (by rw[hr])
theorem repv (v:Value) {zs:List M} {z m:Nat} (h4:VRs ν zs v.cells.toList) (hsz:v.cells.size=z):VRs ν (rep zs m) (madeCells v.cells (m*z)).toList:=by
 have:=rep_vr h4 m;rw[hsz] at this;unfold madeCells;rw[hsz];exact this
set_option maxHeartbeats 2000000 in
theorem wb (S:SR ν s a) {o:Oper} {t e:TypeId} {m z:Nat} {ps:Array (Nat×Operand)} (ho:o.op= .buildSlice t m ps) {l:List (Nat×M)} (hl:parts2 s ps.toList=some l) (hu:und C t=some (.slice e)) (hz:size C e=some z)
   (h1:m*z≤16777216) {zs cs:List M} (hzs:(bif m*z==0 then some [] else(match zero C e with|some zv=>some (rep zv.cells m)|none=>none))=some zs) (h3:zs.length=m*z) (hcs:fillM (fun i=>some (i*z,z)) zs l=some cs):
   Made C.P ν w (fun w' v=>(execOp a.eval o).run C.P w= .ok (.value v) w') (obOf 0 cs) (fun b=> .sl b 0 m (some m)):=by
 obtain⟨q1,q2⟩:=qz S hl;obtain⟨ie,hie,hse⟩:=mj hz;have fillq:∀ {zv:Array Value},VRs ν zs zv.toList→∃ c',Instr.fill (fun i=>some (i*z,z)) zv (ps.map fun(i,x)=>(i,a.eval x)).toList=some c'∧VRs ν cs c'.toList:=fun {zv} hv=>
   wq (ν:=ν) (place:=fun i=>some (i*z,z)) (fun i q hq=>hq) l (ps.map fun(i,x)=>(i,a.eval x)).toList (by simpa using q1) (fun i x u e1 e2=>q2 i x u e1 (by simpa using e2)) hv hcs
 have fin:∀ c':Array Value,(Instr.buildSlice t m (ps.map fun(i,x)=>(i,a.eval x))).run C.P w= .ok (.slice (some ⟨w.heap.size,0,none⟩) m m) (w.alloc (.cells c' e))→VRs ν cs c'.toList→Made C.P ν w (fun w' v=>(execOp a.eval o).run C.P w= .ok (.value v) w') (obOf 0 cs) (fun b=> .sl b 0 m (some m)):=fun c' hr hv=>
   ⟨w,.cells c' e,.slice (some ⟨w.heap.size,0,none⟩) m m,0,bq (q:=Instr.buildSlice t m (ps.map fun(i,x)=>(i,a.eval x))) (by simp only[execOp,ho]) hr,rfl,⟨rfl,rfl,rfl⟩,q9 hv e,rfl,fun ν' b hb hr'=> .sl0 hb (by rw[hr']) (Nat.le_refl _) (fun k hk=>by cases hk;rfl) (fun h=>by cases h)⟩
 have h1':¬ (m*z>2 ^ 24):=by rw[show(2:Nat) ^ 24=16777216 from rfl];omega
 by_cases h0:m*z=0
 · have:zs=[]:=List.eq_nil_of_length_eq_zero (by rw[h3,h0])
   subst this;obtain⟨c',f1,f2⟩:=fillq (zv:= #[]) .nil;refine fin c' ?_ f2;have hsz:=az (w:=w) hz;have f1':Instr.fill (fun i=>some (i*z,z)) #[] (List.map (fun x=>(x.1,a.eval x.2)) ps.toList)=some c':=by simpa using f1
   simp[Instr.buildSlice,ab hu,hsz,h0,newRow,f1',Array.range_zero']
 · rw[show(m*z==0)=false by simpa using h0] at hzs
   simp only[cond_false] at hzs;split at hzs
   · rename_i zv hzv
     cases hzs;obtain⟨i,v,g1,g2,g3,g4⟩:=mc (ν:=ν) hzv;rw[hie] at g1;cases g1;have hsz:v.cells.size=z:=by
      rw[v7] at h3;have hm:0<m:=Nat.pos_of_ne_zero (fun e=>h0 (by rw[e,Nat.zero_mul]))
      have:=Nat.eq_of_mul_eq_mul_left hm h3;rw[← this];have:=g4.1;simpa using this.symm
     obtain⟨c',f1,f2⟩:=fillq (repv v (z:=z) (m:=m) g4 hsz);refine fin c' (run_buildSlice w t e m _ c' ie v hu hie g2 (by rw[hse];exact h1') (by rw[hse];exact h0) ?_) f2
     rw[hse];exact f1
   · cases hzs
theorem ado (S:SR ν s a) {o:Oper} {t e:TypeId} {L K:Operand} (ho:o.op= .makeSlice t L K) {il ik:IntKind} {m k:Nat} (hL:val s L=some (.int il (.ofNat m))) (hK:val s K=some (.int ik (.ofNat k))) (hu:und C t=some (.slice e))
   {i:TypeInfo} (hi:C.P.info? e=some i) (h1:m≤k) (h2:i.bytes*k≤281474976710656) (h3:k≤4294967296) {zv:M} (hzv:zero C e=some zv) {ob:Ob}
   (hob:madeOb i.size zv k=some ob):
   Made C.P ν w (fun w' v=>(execOp a.eval o).run C.P w= .ok (.value v) w') ob (fun b=> .sl b 0 m (some k)):=by
 have vl:=aj S hL;have vk:=aj S hK;generalize eL:a.eval L=uL at vl;generalize eK:a.eval K=uK at vk;cases vl;cases vk;obtain⟨i',v,g1,g2,g3,g4⟩:=mc (ν:=ν) hzv;rw[hi] at g1;cases g1;have hb:(i.bytes:Int)*((k:Nat):Int)≤281474976710656:=by rw[← Int.natCast_mul];exact Int.ofNat_le.2 h2
 have run:=run_make (P:=C.P) w t e i v hu hi g2 il ik (Int.ofNat m) (Int.ofNat k) (Int.natCast_nonneg _) (Int.ofNat_le.2 h1) hb (Int.le_trans (Int.ofNat_le.2 h3) (by decide))
 simp only[Int.ofNat_eq_natCast,Int.toNat_natCast] at run;have fin:∀ ob',OR ν (0,0) ob' (.cells (madeCells v.cells (k*i.size)) e)→ob'.live=true→ob=ob'→Made C.P ν w (fun w' v=>(execOp a.eval o).run C.P w= .ok (.value v) w') ob (fun b=> .sl b 0 m (some k)):=fun ob' q1 q2 e1=>by
   subst e1;exact⟨w,_,_,0,bq (q:=Instr.makeSlice t (a.eval L) (a.eval K)) (by simp only[execOp,ho]) (by rw[eL,eK];exact run),rfl,⟨rfl,rfl,rfl⟩,q1,q2,fun ν' b hb hr'=> .sl0 hb (by rw[hr']) h1 (fun k hk=>by cases hk;rfl) (fun h=>by cases h)⟩
 unfold madeOb at hob;cases h1':i.size==1
 · rw[h1'] at hob
   simp only[cond_false] at hob;obtain⟨h5,h6⟩:=and1 hob;cases h6;have h5:zv.cells.length=i.size:=by simpa using h5
   have hsz:v.cells.size=i.size:=by have:=g4.1;simp at this;omega
   exact fin _ (q9 (repv v g4 hsz) e) rfl rfl
 · rw[h1'] at hob
   simp only[cond_true] at hob;have h1':i.size=1:=by simpa using h1'
   have hna:∀ l,zv≠ .agg l:=fun l e=>by subst e;cases hob
   have hob':ob= .cells k 0 zv .lf:=by
    split at hob
    · exact absurd rfl (hna _)
    · cases hob;rfl
   have hc:zv.cells=[zv]:=by cases zv<;>first|rfl|exact absurd rfl (hna _)
   refine fin (.cells k 0 zv .lf) ?_ rfl hob';rw[hc] at g4;obtain⟨u,r,g5,g6,g7⟩:=g4.inv_cons;rw[g7.inv_nil] at g5;have hsz:v.cells= #[u]:=by apply Array.ext';simp[g5]
   rw[h1',Nat.mul_one,hsz];refine .cells k 0 zv .lf _ e (0,0) (by simp[size_madeCells]) ⟨fun _=>by simp[size_madeCells],by simp⟩ (.inl rfl) fun j x hj=> ?_
   obtain⟨hj1,hj2⟩:=cells_at hj;simp only[Tr.get,Option.getD_none] at hj2;subst hj2;exact⟨u,by simp[madeCells,hj1,Nat.mod_one],g6⟩
theorem mk_str (S:SR ν s a) {o:Oper} {src dst e:TypeId} {X:Operand} (ho:o.op= .convert src dst X) {l:List UInt8} (hX:val s X=some (.str l)) (hs:und C src=some .string) (hd:und C dst=some (.slice e)) (he:und C e=some (.int .u8)):
  Made C.P ν w (fun w' v=>(execOp a.eval o).run C.P w= .ok (.value v) w') (.cells l.length 1 .nilP (trOf 0 .lf (l.map fun c=> .int .u8 c.toNat))) (fun b=> .sl b 0 l.length none):=by
 have:=aj S hX;generalize e1:a.eval X=u at this;cases this;have e2:(⟨l.toArray⟩:ByteArray).size=l.length:=rfl;have hr:=run_bytes_of_string (P:=C.P) w src dst e ⟨l.toArray⟩ hs hd he;have hcap:l.length≤grownCap w l.length 0 e:=by unfold grownCap Question.cut;simp only;omega
 rw[e2] at hr;refine⟨w.drew,.cells (bytesRow ⟨l.toArray⟩ (grownCap w l.length 0 e)) e ((bytesRow ⟨l.toArray⟩ (grownCap w l.length 0 e)).size,(bytesRow ⟨l.toArray⟩ (grownCap w l.length 0 e)).size+1),.slice (some ⟨w.heap.size,0,none⟩) l.length (grownCap w l.length 0 e),grownCap w l.length 0 e,by simp only[execOp,ho,e1,Sem.run_bind,hr,Result.andThen_ok,Sem.run_pure],rfl,⟨rfl,rfl,rfl⟩,?_,rfl,fun ν' b hb hr=> .sl0 hb (by rw[hr]) hcap (fun k hk=>by cases hk) (fun _ _=>by rw[hr])⟩
 have hsz:(bytesRow ⟨l.toArray⟩ (grownCap w l.length 0 e)).size=grownCap w l.length 0 e:=by simp[bytesRow,e2];omega
 refine .cells _ _ _ _ _ e _ (by rw[hsz];exact hcap) ⟨(fun h=>by cases h),by rw[hsz,Nat.mul_one];exact Nat.le_refl _⟩ (.inr (Nat.le_refl _)) fun i x hi=> ?_
 obtain⟨h1,h2⟩:=cells_at hi;rw[ku,if_neg (by omega)] at h2
 simp only[Nat.sub_zero,List.getElem?_map,List.getElem?_eq_getElem h1,Option.map_some,Option.getD_some] at h2;refine⟨.int .u8 l[i].toNat,?_,by rw[h2];exact .int _ _⟩
 simp only[bytesRow];rw[Array.getElem?_append_left (by simpa using h1)]
 simp[h1]
theorem tw (S:SR ν s a) {o:Oper} {t:TypeId} {r:Option Operand} (ho:o.op= .makeMap t r) (hr:∀ X,r=some X→∃ k i kt e,val s X=some (.int k i)∧und C t=some (.map kt e)):
  Made C.P ν w (fun w' v=>(execOp a.eval o).run C.P w= .ok (.value v) w') (.map [] 0) (fun b=> .map b):=by
 refine⟨w,.map #[] 0,.map (some w.heap.size),0,bq (q:=Instr.makeMap t (r.map a.eval)) (by simp only[execOp,ho]) ?_,rfl,⟨rfl,rfl,rfl⟩,.map [] 0 [] rfl (by simp),rfl,fun ν' b hb _=> .map b _ hb⟩
 cases r with
 |none=>simp[Instr.makeMap]
 | some X=>
  obtain⟨k,i,kt,e,h1,h2⟩:=hr X rfl;have:=aj S h1;generalize e1:a.eval X=u at this;cases this;simp[Instr.makeMap,ab h2,asInt,asIntOf,e1]
theorem a0v (S:SR ν s a) {o:Oper} {ob:Ob} {f:Nat→M} (h:evMk C s o=some (ob,f)):Made C.P ν w (fun w' v=>(execOp a.eval o).run C.P w= .ok (.value v) w') ob f:=by
 unfold evMk at h;split at h
 · rename_i t ho
   split at h
   · rename_i z hz
     cases h;obtain⟨i,v,h1,h2,h3,h4⟩:=mc (ν:=ν) hz;refine⟨w,.cells v.cells t,_,0,?_,rfl,⟨rfl,rfl,rfl⟩,q9 h4 t,rfl,fun ν' b hb hr'=>azx w hb hr'⟩
     have hzv:(zeroValue t).run C.P w= .ok v w:=by simp[zeroValue,typeInfo,h1,h2]
     simp[execOp,ho,Instr.alloc,hzv,newVar,newRow]
   · cases h
 · rename_i t X ho
   split at h
   · rename_i u hu
     obtain⟨h1,h2⟩:=and1 h;cases h2;have hv:=aj S hu;refine⟨w,.cells (a.eval X).cells t,_,0,?_,rfl,⟨rfl,rfl,rfl⟩,q9 (hv.cells h1) t,rfl,fun ν' b hb hr'=>azx w hb hr'⟩
     simp[execOp,ho,Instr.box,newVar,newRow]
   · cases h
 · rename_i t m ps ho
   split at h
   · rename_i l hl
     split at h
     · rename_i e hu
       split at h
       · rename_i z hz
         obtain⟨h1,h2⟩:=and1 h;split at h2
         · rename_i zs hzs
           obtain⟨h3,h4⟩:=and1 h2;split at h4
           · rename_i cs hcs
             cases h4;exact wb S ho hl hu hz (by simpa[Nat.ble_eq] using h1) hzs (by simpa using h3) hcs
           · cases h4
         · cases h2
       · cases h
     · cases h
   · cases h
 · rename_i t L K ho
   split at h
   · rename_i il m ik k hL hK
     split at h
     · rename_i e hu
       split at h
       · rename_i i hi
         obtain⟨h1,h2,h3,h4⟩:=and3 h;split at h4
         · rename_i zv hzv
           split at h4
           · rename_i ob' hob
             cases h4;exact ado S ho hL hK hu hi (by simpa[Nat.ble_eq] using h1) (by simpa[Nat.ble_eq] using h2) (by simpa[Nat.ble_eq] using h3) hzv hob
           · cases h4
         · cases h4
       · cases h
     · cases h
   · cases h
 · rename_i t r ho
   split at h
   · cases h
     exact tw (C:=C) S ho (fun X e=>by cases e)
   · rename_i X
     split at h
     · rename_i hX hu
       cases h;exact tw S ho (fun Y e=>by cases e;exact⟨_,_,_,_,hX,hu⟩)
     · cases h
 · rename_i src dst X ho
   split at h
   · rename_i l hX
     split at h
     · rename_i e hs hd
       split at h
       · rename_i he
         cases h;exact mk_str S ho hX hs hd he
       · cases h
     · cases h
   · cases h
 · cases h
end
end Go.Me
namespace Go.Me
open Go
variable [Gam]
set_option linter.unusedSectionVars false
set_option linter.unusedSimpArgs false
set_option linter.unusedVariables false
def Nm.add (ν:Nm) (n c:Nat) (ρ:Nat×Nat):Nm:=⟨fun b=>if b=n then some c else ν b,fun b=>if b=n then ρ else ν.rm b⟩
theorem Nm.add_same (ν:Nm) (n c:Nat) (ρ:Nat×Nat):ν.add n c ρ n=some c:=by simp[Nm.add]
theorem Nm.add_ne (ν:Nm) {n b:Nat} (c:Nat) (ρ:Nat×Nat) (h:b≠n):ν.add n c ρ b=ν b:=by simp[Nm.add,h]
theorem Nm.rm_same (ν:Nm) (n c:Nat) (ρ:Nat×Nat):(ν.add n c ρ).rm n=ρ:=by simp[Nm.add]
theorem Nm.rm_ne (ν:Nm) {n b:Nat} (c:Nat) (ρ:Nat×Nat) (h:b≠n):(ν.add n c ρ).rm b=ν.rm b:=by simp[Nm.add,h]
def upd (g:Gt) (b:Nat) (o:Ob):Gt:=fun b'=>if b'=b then some o else g b'
theorem dm (g:Gt) (b:Nat) (o:Ob):upd g b o b=some o:=by simp[upd]
theorem a8 (g:Gt) {b b':Nat} (o:Ob) (h:b'≠b):upd g b o b'=g b':=by simp[upd,h]
theorem qt (H:Hp) (b:Nat) (o:Ob):(H.put b o).get=upd H.get b o:=by
 funext b'
 simp only[Hp.get,Hp.put,Tr.get_put,upd]
theorem dn (H:Hp) (o:Ob):(H.push o).get=upd H.get H.n o:=by
 funext b'
 simp only[Hp.get,Hp.push,Tr.get_put,upd]
section
variable {C:Cfg} {base:Nat} {ν:Nm} {g:Gt} {n:Nat} {w:World}
theorem WR.turn (R:WR C base ν g n w) {b c:Nat} {o o':Ob} (hb:ν b=some c) (hg:g b=some o) (hl:o.live=true) {w':World} {ob:Obj} (hc:w'.heap[c]? =some ob) (ho:OR ν (ν.rm b) o' ob) (hn:∀ c',c'≠c→w'.heap[c']? =w.heap[c']?)
   (hsz:w'.heap.size=w.heap.size) (hr:w'.os=w.os∧w'.tape=w.tape∧w'.output=w.output):WR C base ν (upd g b o') n w'∧St ν g n w ν (upd g b o') n w':=by
 have live:∀ b',c9 (upd g b o') b'→c9 g b':=fun b' ⟨q,h1,h2⟩=>by
   by_cases e:b'=b
   · subst e;exact⟨o,hg,hl⟩
   · rw[a8 _ _ e] at h1;exact⟨q,h1,h2⟩
 refine⟨⟨fun b c h=>by rw[hsz];exact R.lt b c h,fun b' q c' h1 h2 h3=> ?_,fun b1 b2 c' h1 h2=>R.inj b1 b2 c' (live _ h1) (live _ h2),fun k xs hk=> ?_,fun k xs hk=> ?_,by rw[hsz];exact R.big,fun b' q h=> ?_⟩,
   ⟨Nat.le_refl _,fun _ _=>⟨rfl,rfl⟩,fun b' _ h=>live b' h,fun b' _ h=> ?_,fun b' _ h=>a8 _ _ (fun e=>by rw[e,hb] at h;cases h),fun b' _ h=>by rw[a8 _ _ (fun e=>by rw[e,hg] at h;cases h)];exact h,fun b c h1 h2=>absurd (R.lt b c h2).1 (by omega),by rw[hsz];exact Nat.le_refl _,fun c' _ h=>hn c' (fun e=>h b ⟨o,hg,hl⟩ (by rw[hb,e])),hr⟩⟩
 · by_cases e:b'=b
   · subst e
     rw[dm] at h1;cases h1;rw[hb] at h3;cases h3;exact⟨ob,hc,ho⟩
   · rw[a8 _ _ e] at h1
     have hne:c'≠c:=fun e2=>e (R.inj b' b c' ⟨q,h1,h2⟩ ⟨o,hg,hl⟩ h3 (by rw[hb,e2]))
     rw[hn c' hne];exact R.ob b' q c' h1 h2 h3
 · obtain⟨h1,vs,e,fr,h2,h3⟩:=R.gl k xs hk
   have:=(R.lt b c hb).2.1;exact⟨h1,vs,e,fr,by rw[hn k (by omega)];exact h2,h3⟩
 · obtain⟨h1,vs,e,h2,hcv,h3⟩:=R.vg k xs hk
   have:=(R.lt b c hb).2.1;exact⟨h1,vs,e,by rw[hn _ (by omega)];exact h2,hcv,h3⟩
 · by_cases e:b'=b
   · rw[e];exact(R.lt b c hb).1
   · rw[a8 _ _ e] at h;exact R.dom b' q h
 · by_cases e:b'=b
   · rw[e,dm];simp
   · rw[a8 _ _ e];exact h
theorem WR.kill (R:WR C base ν g n w) {b:Nat} (hb:b<n):WR C base ν (upd g b .dead) n w:=by
 have h:∀ b' o,upd g b .dead b'=some o→o.live=true→g b'=some o:=fun b' o h1 h2=>by
   by_cases e:b'=b
   · subst e;rw[dm] at h1;cases h1;cases h2
   · rwa [a8 _ _ e] at h1
 refine⟨R.lt,fun b o c h1 h2 h3=>R.ob b o c (h b o h1 h2) h2 h3,fun b b' c ⟨o,h1,h2⟩ ⟨o',h3,h4⟩=>R.inj b b' c ⟨o,h b o h1 h2,h2⟩ ⟨o',h b' o' h3 h4,h4⟩,R.gl,R.vg,R.big,fun b' o h1=> ?_⟩
 by_cases e:b'=b
 · rw[e];exact hb
 · rw[a8 _ _ e] at h1;exact R.dom b' o h1
theorem WR.fresh (R:WR C base ν g n w) {w':World} {c:Nat} {ρ:Nat×Nat} {o:Ob} {ob:Obj} (hc:w'.heap[c]? =some ob) (ho:OR ν ρ o ob) (hbase:base≤c) (hlt:c<w'.heap.size) (hno:∀ b,c9 g b→ν b≠some c) (hn:∀ c',c'≠c→c'<w.heap.size→w'.heap[c']? =w.heap[c']?)
   (hsz:w.heap.size≤w'.heap.size):WR C base (ν.add n c ρ) (upd g n o) (n+1) w'∧ν.le (ν.add n c ρ):=by
 have hle:ν.le (ν.add n c ρ):=fun b d h=>by
   have hb:b≠n:=by have:=(R.lt b d h).1;omega
   rw[Nm.add_ne _ _ _ hb,Nm.rm_ne _ _ _ hb];exact⟨h,rfl⟩
 refine⟨⟨fun b d h=> ?_,fun b q d h1 h2 h3=> ?_,fun b1 b2 d ⟨q1,h1,h2⟩ ⟨q2,h3,h4⟩ h5 h6=> ?_,fun k xs hk=> ?_,fun k xs hk=> ?_,Nat.le_trans R.big hsz,fun b q h=> ?_⟩,hle⟩
 · by_cases e:b=n
   · subst e;rw[Nm.add_same] at h;cases h;exact⟨Nat.lt_succ_self _,hbase,hlt⟩
   · rw[Nm.add_ne _ _ _ e] at h;have:=R.lt b d h;exact⟨by omega,this.2.1,by omega⟩
 · by_cases e:b=n
   · subst e
     rw[Nm.add_same] at h3;cases h3;rw[dm] at h1;cases h1;rw[Nm.rm_same];exact⟨ob,hc,ho.mono hle⟩
   · rw[Nm.rm_ne _ _ _ e]
     rw[Nm.add_ne _ _ _ e] at h3;rw[a8 _ _ e] at h1;obtain⟨ob',h4,h5⟩:=R.ob b q d h1 h2 h3;exact⟨ob',by rw[hn d (fun e2=>hno b ⟨q,h1,h2⟩ (by rw[h3,e2])) (R.lt b d h3).2.2];exact h4,h5.mono hle⟩
 · by_cases e1:b1=n<;>by_cases e2:b2=n
   · rw[e1,e2]
   · subst e1
     rw[Nm.add_same] at h5;rw[Nm.add_ne _ _ _ e2] at h6;rw[a8 _ _ e2] at h3;exact absurd (h6.trans h5.symm) (fun e=>hno b2 ⟨q2,h3,h4⟩ (by rw[e]))
   · subst e2
     rw[Nm.add_ne _ _ _ e1] at h5;rw[Nm.add_same] at h6;rw[a8 _ _ e1] at h1;exact absurd (h5.trans h6.symm) (fun e=>hno b1 ⟨q1,h1,h2⟩ (by rw[e]))
   · rw[Nm.add_ne _ _ _ e1] at h5;rw[Nm.add_ne _ _ _ e2] at h6
     rw[a8 _ _ e1] at h1;rw[a8 _ _ e2] at h3;exact R.inj b1 b2 d ⟨q1,h1,h2⟩ ⟨q2,h3,h4⟩ h5 h6
 · obtain⟨h1,vs,e,fr,h2,h3⟩:=R.gl k xs hk
   exact⟨h1,vs,e,fr,by rw[hn k (by omega) (Nat.lt_of_lt_of_le h1 R.big)];exact h2,h3⟩
 · obtain⟨h1,vs,e,h2,hcv,h3⟩:=R.vg k xs hk
   exact⟨h1,vs,e,by rw[hn _ (by omega) (Nat.lt_of_lt_of_le h1 R.big)];exact h2,hcv,h3⟩
 · by_cases e:b=n
   · omega
   · rw[a8 _ _ e] at h;have:=R.dom b q h;omega
theorem WR.alloc (R:WR C base ν g n w) {w1:World} (hw:w1.heap=w.heap) (hr:w1.os=w.os∧w1.tape=w.tape∧w1.output=w.output) {ρ:Nat×Nat} {o:Ob} {ob:Obj} (ho:OR ν ρ o ob):
   WR C base (ν.add n w.heap.size ρ) (upd g n o) (n+1) (w1.alloc ob)∧St ν g n w (ν.add n w.heap.size ρ) (upd g n o) (n+1) (w1.alloc ob):=by
 have hsz:(w1.alloc ob).heap.size=w.heap.size+1:=by simp[hw]
 have hnew:(w1.alloc ob).heap[w.heap.size]? =some ob:=by simp[World.alloc,hw]
 have hold:∀ c',c'≠w.heap.size→c'<w.heap.size→(w1.alloc ob).heap[c']? =w.heap[c']? :=fun c' _ h=>by
   simp only[World.alloc,hw];rw[Array.getElem?_push_lt h,Array.getElem?_eq_getElem h]
 refine⟨(R.fresh hnew ho R.big (by omega) (fun b _ h=>by have:=(R.lt b _ h).2.2;omega) hold (by omega)).1,
   ⟨by omega,fun b hb=>⟨Nm.add_ne _ _ _ (by omega),Nm.rm_ne _ _ _ (by omega)⟩,fun b hb ⟨q,h1,h2⟩=>⟨q,by rwa [a8 _ _ (by omega)] at h1,h2⟩,fun b hb h=>by rw[a8 _ _ (by omega)];exact h,fun b hb _=>a8 _ _ (by omega),fun b hb h=>by rw[a8 _ _ (by omega)];exact h,fun b c hb h=> ?_,by omega,fun c hc _=>hold c (by omega) hc,hr⟩⟩
 by_cases e:b=n
 · subst e;rw[Nm.add_same] at h;cases h;exact .inl (Nat.le_refl _)
 · rw[Nm.add_ne _ _ _ e] at h;exact absurd (R.lt b c h).1 (by omega)
def setL (cs:Array Value):Nat→List Value→Array Value
 |_,[]=>cs
 |o,v::r=>setL (cs.setIfInBounds o v) (o+1) r
theorem fc:∀ (vs:List Value) (cs:Array Value) (o:Nat),(setL cs o vs).size=cs.size
 | [],_,_=>rfl
 |v::r,cs,o=>by rw[setL,fc r];simp
theorem v5:∀ (vs:List Value) (cs:Array Value) (o j:Nat),o+vs.length≤cs.size∨vs=[]→(setL cs o vs)[j]? =if o≤j∧j<o+vs.length then vs[j-o]? else cs[j]?
 | [],cs,o,j,_=>by rw[setL,if_neg (by simp)]
 | v::r,cs,o,j,h=>by
  have h:o+(r.length+1)≤cs.size:=by simpa using h
  rw[setL,v5 r (cs.setIfInBounds o v) (o+1) j (by simp;omega)]
  by_cases e:j=o
  · subst e
    rw[if_neg (by omega),if_pos (by simp)]
    simp[show j<cs.size by omega]
  · by_cases e2:o+1≤j∧j<o+1+r.length
    · rw[if_pos e2,if_pos (by simp;omega),show j-o=(j-(o+1))+1 by omega]
      simp
    · rw[if_neg e2,if_neg (by simp;omega),Array.getElem?_setIfInBounds_ne (Ne.symm e)]
theorem jg:∀ (vs:List Value) (w:World) (c o:Nat) {cs:Array Value} {e:TypeId} {fr:Nat×Nat},w.heap[c]? =some (.cells cs e fr)→
  (w.setCells c o vs).heap[c]? =some (.cells (setL cs o vs) e fr)∧(∀ c',c'≠c→(w.setCells c o vs).heap[c']? =w.heap[c']?)∧(w.setCells c o vs).heap.size=w.heap.size∧((w.setCells c o vs).os=w.os∧(w.setCells c o vs).tape=w.tape∧(w.setCells c o vs).output=w.output)
 | [],w,c,o,cs,e,fr,h=>⟨h,fun _ _=>rfl,rfl,rfl,rfl,rfl⟩
 | v::r,w,c,o,cs,e,fr,h=>by
  have h1:(w.setCell ⟨c,o,none⟩ v).heap[c]? =some (.cells (cs.setIfInBounds o v) e fr):=by
    simp[World.setCell,Array.getElem?_modify,h]
  obtain⟨g1,g2,g3,g4⟩:=jg r (w.setCell ⟨c,o,none⟩ v) c (o+1) h1;refine⟨g1,fun c' hc=> ?_,?_,?_⟩
  · rw[World.setCells,g2 c' hc]
    simp[World.setCell,Array.getElem?_modify,Ne.symm hc]
  · rw[World.setCells,g3];simp
  · obtain⟨q1,q2,q3⟩:=g4
    exact⟨q1,q2,q3⟩
theorem qi:∀ (l:List M) (i:Nat) {o o':Ob},o.sets i l=some o'→l=[]∧o'=o∨∃ k ex d t t',o= .cells k ex d t∧o'= .cells k ex d t'∧i+l.length≤k∧l.all M.cell=true∧
    ∀ j x,o'.at j=some x→if i≤j∧j<i+l.length then l[j-i]? =some x else o.at j=some x
 | [],i,o,o',h=>by simp only[Ob.sets,Option.some.injEq] at h;exact .inl ⟨rfl,h.symm⟩
 | x::l,i,o,o',h=>by
  unfold Ob.sets at h;split at h
  · rename_i o1 h1
    unfold Ob.set at h1;split at h1
    · rename_i k ex d t
      obtain⟨h2,h3,h4⟩:=and2 h1;cases h4;have h2:i<k:=by simpa[Nat.blt_eq] using h2
      have at1:∀ j y,(Ob.cells k ex d (t.put i x)).at j=some y→if j=i then y=x else(Ob.cells k ex d t).at j=some y:=fun j y hy=>by
        obtain⟨g1,g2⟩:=cells_at hy;rw[Tr.get_put] at g2;by_cases e:j=i
        · rw[if_pos e] at g2 ⊢;simpa using g2
        · rw[if_neg e] at g2 ⊢
          have hlt:Nat.blt j k=true:=by simpa[Nat.blt_eq] using g1
          subst g2;cases hq:t.get j<;>simp[Ob.at,hlt,hq]
      rcases qi l (i+1) h with⟨rfl,rfl⟩|⟨k',ex',d',t1,t',e1,rfl,e3,e4,e5⟩
      · refine .inr ⟨k,ex,d,t,t.put i x,rfl,rfl,by simp;omega,by simp[h3],fun j y hy=> ?_⟩
        have:=at1 j y hy;by_cases e:j=i
        · subst e;rw[if_pos rfl] at this;rw[if_pos (by simp)];simp[this]
        · rw[if_neg e] at this;rw[if_neg (by simp;omega)];exact this
      · cases e1
        refine .inr ⟨k,ex,d,t,t',rfl,rfl,by simp;omega,by simp[h3,e4],fun j y hy=> ?_⟩
        have:=e5 j y hy;by_cases e:j=i
        · subst e
          rw[if_neg (by omega)] at this
          have:=at1 j y this;rw[if_pos rfl] at this;rw[if_pos (by simp)]
          simp[this]
        · by_cases e2:i+1≤j∧j<i+1+l.length
          · rw[if_pos e2] at this
            rw[if_pos (by simp;omega),show j-i=(j-(i+1))+1 by omega]
            simpa using this
          · rw[if_neg e2] at this
            have:=at1 j y this;rw[if_neg e] at this;rw[if_neg (by simp;omega)]
            exact this
    · cases h1
  · cases h
theorem wr_ok {H H':Hp} (R:WR C base ν H.get H.n w) {b c i:Nat} (hb:ν b=some c) {l:List M} {vs:List Value} (hv:VRs ν l vs) (h:H.wr b i l=some H'):
   H'.n=H.n∧(∀ j,j<vs.length→(w.cell? ⟨c,i+(ν.rm b).2+j,none⟩).isSome=true)∧(∀ j,j<vs.length→w.frozen? ⟨c,i+(ν.rm b).2+j,none⟩=false)∧(∀ v∈vs,v.oneCell'=true)∧
     WR C base ν H'.get H'.n (w.setCells c (i+(ν.rm b).2) vs)∧St ν H.get H.n w ν H'.get H'.n (w.setCells c (i+(ν.rm b).2) vs):=by
 unfold Hp.wr at h;split at h
 · rename_i o ho
   split at h
   · rename_i o' ho'
     obtain⟨h1,h2⟩:=and1 h;cases h2;have hone:l.all M.cell=true→∀ v∈vs,v.oneCell'=true:=fun hc v hm=>by
       obtain⟨j,hj⟩:=List.getElem?_of_mem hm;have hlt:j<l.length:=by rw[hv.1];exact(List.getElem?_eq_some_iff.1 hj).1
       have hx:=List.getElem?_eq_getElem hlt;have hr:=hv.2 j _ v hx hj;have hcx:(l[j]).cell=true:=(List.all_eq_true.1 hc) _ (List.getElem_mem hlt);obtain⟨q1,q2,_⟩:=hr.cell hcx;cases v<;>first|rfl|exact absurd rfl (q1 _)|exact absurd rfl (q2 _)
     rcases qi l i ho' with⟨rfl,rfl⟩|⟨k,ex,d,t,t',rfl,rfl,e3,e4,e5⟩
     · have:vs=[]:=hv.inv_nil
       subst this;have e:(H.put b o').get=H.get:=by
         rw[qt]
         funext b'
         by_cases e:b'=b
         · subst e;rw[dm];exact ho.symm
         · rw[a8 _ _ e]
       rw[e];exact⟨rfl,by simp,by simp,by simp,R,R.refl⟩
     · obtain⟨ob,q1,q2⟩:=R.ob b _ c ho rfl hb
       cases q2 with|cells _ _ _ _ cs et fr hn hx hf hh=>
       have hl:l.length=vs.length:=hv.1;obtain⟨g1,g2,g3,g4⟩:=jg vs w c (i+(ν.rm b).2) q1;have:=R.turn (o':= .cells k ex d t') hb ho rfl g1 (.cells k ex d t' _ et fr (by rw[fc];exact hn) (by rw[fc];exact hx) (by rw[fc];exact hf) fun j x hj=>by
         rw[v5 vs cs (i+(ν.rm b).2) (j+(ν.rm b).2) (.inl (by omega)),show j+(ν.rm b).2-(i+(ν.rm b).2)=j-i by omega]
         have hj':=e5 j x hj;by_cases e:i≤j∧j<i+vs.length
         · rw[if_pos (by rw[hl];exact e)] at hj'
           rw[if_pos (by omega)]
           exact hv.get hj'
         · rw[if_neg (by rw[hl];exact e)] at hj'
           rw[if_neg (by omega)]
           exact hh j x hj') g2 g3 g4
       rw[qt];refine⟨rfl,fun j hj=> ?_,fun j hj=> ?_,hone e4,this.1,this.2⟩
       · simp[World.cell?,q1,show i+(ν.rm b).2+j<cs.size by omega]
       · simp only[World.frozen?,q1]
         obtain⟨f1,f2⟩:=fr;simp only at hf ⊢;simp only[Bool.and_eq_false_iff,decide_eq_false_iff_not];omega
   · cases h
 · cases h
end
