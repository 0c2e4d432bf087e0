import Derived.Test.YtkdiccgfbfbjlaaGreatMeM
import Derived.Laws.Append
namespace Go.Me
open Go
variable [Gam]
set_option linter.unusedSectionVars false
set_option linter.unusedSimpArgs false
set_option linter.unusedVariables false
section
variable {P:Program} {w:World}
structure Src (P:Program) (w:World) (size:Nat) (x:Value) (n:Nat) (news:List Value):Prop where
 len:∀ w',(Builtin.lenOf x).run P w'= .ok n w'
 cells:∀ w',w'.heap=w.heap→(Builtin.firstCells size n x).run P w'= .ok news.toArray w'
 num:news.length=n*size
 one:∀ v∈news,v.oneCell'=true
theorem run_append_room2 {t u ty e:TypeId} {i:TypeInfo} {d:TypeDesc} (ht:P.underlying t=some (.slice e)) (hu:P.underlying u=some d) (hd:∀ k,d≠ .int k) (hi:P.info? e=some i)
  {b o sLen sCap n:Nat} {y:Value} {news:List Value} (S:Src P w i.size y n news) (hr:sLen+n≤sCap)
  (hcell:∀ j,j<news.length→(w.cell? ⟨b,o+sLen*i.size+j,none⟩).isSome=true) (hfro:∀ j,j<news.length→w.frozen? ⟨b,o+sLen*i.size+j,none⟩=false):
  (Builtin.append_ #[t,u] ty #[.slice (some ⟨b,o,none⟩) sLen sCap,y]).run P w= .ok (.slice (some ⟨b,o,none⟩) (sLen+n) sCap) (w.setCells b (o+sLen*i.size) news):=by
 have hz:(match d with| .int _=>true|_=>false)=false:=by cases d<;>first|rfl|exact absurd rfl (hd _)
 have hst:=run_storeCells_cells (P:=P) b (o+sLen*i.size) news 0 w (by simpa using hcell) (by simpa using hfro) S.one
 have hc:=S.cells w rfl;have hl:=S.len w;simp only[Nat.add_zero] at hst;simp only[Builtin.append_,List.getElem?_toArray,List.getElem?_cons_zero,List.getElem?_cons_succ,Sem.run_bind,run_underlying ht,run_underlying hu,Result.andThen_ok,sizeOf,typeInfo,run_program,hi,Sem.run_pure,hz,
  Bool.false_eq_true,if_false,hl,hr,if_true,Bool.not_false,hc,b7]
 rw[hst];rfl
theorem run_append_grow2 {t u ty e:TypeId} {i:TypeInfo} {z:Value} {d:TypeDesc} (ht:P.underlying t=some (.slice e)) (hu:P.underlying u=some d) (hd:∀ k,d≠ .int k) (hi:P.info? e=some i) (hz:i.zero=some z)
  {base:Option Addr} {sLen sCap n:Nat} {y:Value} {olds news:List Value} (S:Src P w i.size y n news) (hr:sCap<sLen+n) (hb0:i.bytes≠0) (h47:(sLen+n)*i.bytes≤140737488355328)
  (hold:∀ w',w'.heap=w.heap→(Builtin.firstCells i.size sLen (.slice base sLen sCap)).run P w'= .ok olds.toArray w'):
  (Builtin.append_ #[t,u] ty #[.slice base sLen sCap,y]).run P w=
   .ok (.slice (some ⟨w.heap.size,0,none⟩) (sLen+n) (grownCap w (sLen+n) sCap e)) (w.drew.alloc (.cells (olds.toArray++news.toArray++Builtin.zeroCells z.cells (grownCap w (sLen+n) sCap e-(sLen+n))) e)):=by
 have hzz:(match d with| .int _=>true|_=>false)=false:=by cases d<;>first|rfl|exact absurd rfl (hd _)
 have hn:¬ (sLen+n≤sCap):=by omega
 have h48:=growslice_fits hr h47;have h48':¬ (Builtin.nextslicecap (sLen+n) sCap*i.bytes>2 ^ 48):=by
  have:(2:Nat) ^ 48=281474976710656:=by decide
  omega
 have hl:=S.len w;have hc:=S.cells w.drew rfl;have ho:=hold w.drew rfl;simp only[Builtin.append_,List.getElem?_toArray,List.getElem?_cons_zero,List.getElem?_cons_succ,Sem.run_bind,run_underlying ht,run_underlying hu,Result.andThen_ok,sizeOf,typeInfo,run_program,hi,Sem.run_pure,hzz,
  Bool.false_eq_true,if_false,hl,hn,Bool.not_false,if_true,false_or,hb0,and_false,h48',run_choose,Question.forced,run_askRoom,zeroValue,hz]
 rw[show({w with drawn:=w.drawn+1}:World)=w.drew from rfl]
 simp only[ho,Result.andThen_ok,hc];rfl
theorem fc {t u ty e:TypeId} {i:TypeInfo} {d:TypeDesc} (ht:P.underlying t=some (.slice e)) (hu:P.underlying u=some d) (hd:∀ k,d≠ .int k) (hi:P.info? e=some i)
  {base:Option Addr} {sLen sCap:Nat} (hc:sLen≤sCap) {y:Value} (S:Src P w i.size y 0 []):(Builtin.append_ #[t,u] ty #[.slice base sLen sCap,y]).run P w= .ok (.slice base sLen sCap) w:=by
 have hz:(match d with| .int _=>true|_=>false)=false:=by cases d<;>first|rfl|exact absurd rfl (hd _)
 have hcc:=S.cells w rfl;have hl:=S.len w;simp only[Builtin.append_,List.getElem?_toArray,List.getElem?_cons_zero,List.getElem?_cons_succ,Sem.run_bind,run_underlying ht,run_underlying hu,Result.andThen_ok,sizeOf,typeInfo,run_program,hi,Sem.run_pure,hz,
  Bool.false_eq_true,if_false,hl,Nat.add_zero,hc,if_true,Bool.not_false,hcc]
 cases base<;>rfl
end
section
variable {C:Cfg} {base:Nat} {ν:Nm} {g:Gt} {n:Nat} {w:World} {H:Hp} {s:Tr M} {a:Act}
theorem kg {w w':World} (h:w'.heap=w.heap) (x:Addr):w'.cell? x=w.cell? x:=by simp[World.cell?,h]
theorem ones {l:List M} {vs:List Value} (hv:VRs ν l vs) (hc:l.all M.cell=true):∀ v∈vs,v.oneCell'=true:=fun v hm=>by
 obtain⟨j,hj⟩:=List.getElem?_of_mem hm;have hlt:j<l.length:=by rw[hv.1];exact(List.getElem?_eq_some_iff.1 hj).1
 have hr:=hv.2 j _ v (List.getElem?_eq_getElem hlt) hj;obtain⟨q1,q2,_⟩:=hr.cell ((List.all_eq_true.1 hc) _ (List.getElem_mem hlt));cases v<;>first|rfl|exact absurd rfl (q1 _)|exact absurd rfl (q2 _)
theorem axd:∀ l:List UInt8,VRs ν (l.map fun c=>M.int .u8 c.toNat) (l.map fun c=>Value.int .u8 c.toNat)
 | []=> .nil
 |c::l=> .cons (.int _ _) (axd l)
theorem arg_ok (R:WR C base ν H.get H.n w) {y:M} {v:Value} (hy:VR ν y v) {z m:Nat} {ys:List M} (h1:argLen y=some m) (h2:argCells H z y=some ys) (hnum:ys.length=m*z∨∀ l,y≠ .str l):
   ∃ news:List Value,(∀ w',(Builtin.lenOf v).run C.P w'= .ok m w')∧(∀ w',w'.heap=w.heap→(Builtin.firstCells z m v).run C.P w'= .ok news.toArray w')∧VRs ν ys news:=by
 cases y<;>first| (simp[argLen] at h1;done)|skip
 · rename_i l
   cases hy;simp only[argLen,Option.some.injEq] at h1;simp only[argCells,Option.some.injEq] at h2;subst h1;subst h2;refine⟨l.map fun c=>Value.int .u8 c.toNat,fun w'=>rfl,fun w' _=> ?_,axd l⟩
   simp only[Builtin.firstCells];have:(⟨l.toArray⟩:ByteArray).extract 0 l.length=⟨l.toArray⟩:=by
    have:=ByteArray.extract_zero_size (b:=⟨l.toArray⟩);exact this
   rw[this];simp
 · rename_i b o k c
   cases hy with|sl _ _ _ _ d cap hb hc hk hr=>
   simp only[argLen,Option.some.injEq] at h1;subst h1;simp only[argCells] at h2;obtain⟨vs,q1,q2,q3⟩:=R.rds (H:=H) (fun b o h _=>h) hb (k*z) o h2
   refine⟨vs,fun w'=>rfl,fun w' hw=> ?_,q2⟩
   simp only[Builtin.firstCells];have:=je (P:=C.P) (w:=w') (c:=d) (i:=o+(ν.rm b).2) (vs:=vs) fun j v hv=>by rw[kg hw];exact q3 j v hv
   rw[q1] at this;exact this
 · cases hy
   simp only[argLen,Option.some.injEq] at h1;simp only[argCells,Option.some.injEq] at h2;subst h1;subst h2;exact⟨[],fun w'=>rfl,fun w' _=>by simp[Builtin.firstCells,loadCells,loadCellsFrom],.nil⟩
 · cases hy
   simp only[argLen,Option.some.injEq] at h1;simp only[argCells,Option.some.injEq] at h2;subst h1;subst h2;exact⟨[],fun w'=>rfl,fun w' _=>rfl,.nil⟩
def Turns (C:Cfg) (base:Nat) (ν:Nm) (H:Hp) (w:World) (q:World→Value→Prop) (x:M) (H':Hp):Prop:=
 ∃ v w' ν',q w' v∧VR ν' x v∧WR C base ν' H'.get H'.n w'∧St ν H.get H.n w ν' H'.get H'.n w'
theorem fh (w:World) (need old:Nat) (e:TypeId):need≤grownCap w need old e:=by unfold grownCap Question.cut;simp only;omega
theorem zeroCells_size (zs:Array Value) (n:Nat):(Builtin.zeroCells zs n).size=n*zs.size:=by simp[Builtin.zeroCells]
theorem auf (R:WR C base ν H.get H.n w) {z m cap:Nat} {l y:List M} {ol ne:List Value} (hl:VRs ν l ol) (hy:VRs ν y ne) (hnum:(l++y).length=m*z) (hcap:m≤cap) {zs:Array Value} (hz:zs.size=z) (e:TypeId):
   Turns C base ν H w (fun w' v=>v= .slice (some ⟨w.heap.size,0,none⟩) m cap∧w'=w.drew.alloc (.cells (ol.toArray++ne.toArray++Builtin.zeroCells zs (cap-m)) e)) (grown H z l y m none).1 (grown H z l y m none).2:=by
 have hv:=hl.app hy;have hsz:(ol.toArray++ne.toArray++Builtin.zeroCells zs (cap-m)).size=cap*z:=by
   have h1:=hv.1;simp only[List.length_append] at h1 hnum;simp only[Array.size_append,List.size_toArray,zeroCells_size,hz,Nat.sub_mul];have:=Nat.mul_le_mul_right z hcap;omega
 have hor:OR ν (cap,0) (.cells (l.length+y.length) z .nilP (trOf 0 .lf (l++y))) (.cells (ol.toArray++ne.toArray++Builtin.zeroCells zs (cap-m)) e):=by
   refine .cells _ _ _ _ _ e (0,0) ?_ ⟨fun hz0=> ?_,by rw[hsz];exact Nat.le_refl _⟩ (.inl rfl) fun i x hi=> ?_
   · have h1:=hv.1
     simp only[List.length_append] at h1 hnum;rw[hsz,hnum];exact Nat.mul_le_mul_right z hcap
   · simp only[List.length_append] at hnum
     rw[hsz,hnum,hz0];simp
   · obtain⟨h1,h2⟩:=cells_at hi
     rw[j2,if_neg (by omega),Nat.sub_zero] at h2
     have hlt:i<(l++y).length:=by simpa using h1
     rw[List.getElem?_eq_getElem hlt] at h2;simp only[Option.getD_some] at h2;obtain⟨v,h3,h4⟩:=hv.get (List.getElem?_eq_getElem hlt);refine⟨v,?_,by rw[h2];exact h4⟩
     have hlt2:i<(ol++ne).length:=by rw[← hv.1];exact hlt
     rw[Array.getElem?_append_left (by simpa using hlt2)]
     simpa using h3
 obtain⟨g1,g2⟩:=R.alloc (w1:=w.drew) rfl ⟨rfl,rfl,rfl⟩ hor;refine⟨_,_,ν.add H.n w.heap.size (cap,0),⟨rfl,rfl⟩,?_,?_,?_⟩
 · simp only[grown]
   exact .sl0 (Nm.add_same _ _ _ _) (by rw[Nm.rm_same]) hcap (fun k hk=>by cases hk) (fun _ _=>by rw[Nm.rm_same])
 · simp only[grown]
   rw[ea];exact g1
 · simp only[grown]
   rw[ea];exact g2
theorem oc {P:Program} {w:World} {t u ty e:TypeId} {i:TypeInfo} {z:Value} (ht:P.underlying t=some (.slice e)) (hu:P.underlying u=some (.int .i64)) (hi:P.info? e=some i) (hz:i.zero=some z) (hs:i.size=1) (hb:i.bytes=1) {k:Nat} (h0:0<k) (hk:k<1048576):
  (Builtin.append_ #[t,u] ty #[.slice none 0 0,.int .i64 (k:Int)]).run P w=
   .ok (.slice (some ⟨w.heap.size,0,none⟩) k (grownCap w k 0 e)) (w.drew.alloc (.cells (Builtin.zeroCells z.cells k++Builtin.zeroCells z.cells (grownCap w k 0 e-k)) e)):=by
 have hw:IntKind.i64.wrap (k:Int)=k:=by rw[IntKind.wrap_i64];omega
 have h1:¬ ((k:Int)<0):=by omega
 have h2:¬ ((k:Int)*((1:Nat):Int)>2 ^ 48):=by
  have:(2:Int) ^ 48=281474976710656:=by decide
  omega
 have h3:¬ (k=0):=by omega
 have h4:¬ (0+k≤0):=by omega
 have h5:¬ (((0+k:Nat):Int)>IntKind.i64.max):=by
  have:IntKind.i64.max=9223372036854775807:=by decide
  omega
 have h6:¬ (Builtin.nextslicecap (0+k) 0>2 ^ 48):=by
  have:=growslice_fits (need:=0+k) (old:=0) (bytes:=1) (by omega) (by omega)
  have:(2:Nat) ^ 48=281474976710656:=by decide
  omega
 simp only[Builtin.append_,List.getElem?_toArray,List.getElem?_cons_zero,List.getElem?_cons_succ,Sem.run_bind,run_underlying ht,run_underlying hu,Result.andThen_ok,sizeOf,typeInfo,run_program,hi,Sem.run_pure,
  if_true,asInt,asIntOf,hw,h1,h2,hs,hb,if_false,Int.toNat_natCast,h4,h5,h6,Nat.mul_one,h3,Bool.not_true,Bool.false_eq_true,true_or,and_true,run_choose,Question.forced,run_askRoom,zeroValue,hz]
 have hf:∀ w:World,(Builtin.firstCells 1 0 (.slice none 0 0)).run P w= .ok #[] w:=fun w=>by simp[Builtin.firstCells]
 have hc:Question.cut (.appendCap (0+k) 0 e) w.drawn=Question.cut (.appendCap k 0 e) w.drawn:=by rw[Nat.zero_add]
 simp only[Sem.run_bind,run_choose,Question.forced,Result.andThen_ok,run_program,hi,Sem.run_pure,run_askRoom,hf,hz,newRow];simp only[Nat.zero_add,Array.empty_append];rfl
theorem aw5 (R:WR C base ν H.get H.n w) {ts:Array TypeId} {ty:TypeId} {x y r:M} {u v:Value} (hx:VR ν x u) (hy:VR ν y v) {H':Hp} (h:zerosM C H ts x y=some (r,H')):
   Turns C base ν H w (fun w' z=>(Builtin.append_ ts ty #[u,v]).run C.P w= .ok z w') r H':=by
 unfold zerosM at h;split at h
 · rename_i k
   cases hx;cases hy;split at h
   · rename_i t t1 e0 e1
     split at h
     · rename_i e h1 h2
       split at h
       · rename_i i hi
         split at h
         · rename_i kz nz hz
           cases hq:(i.size==1&&i.bytes==1&&(Nat.blt 0 k&&Nat.blt k 1048576))
           · rw[hq] at h;cases h
           · rw[hq] at h
             simp only[cond_true,Option.some.injEq,Prod.mk.injEq] at h;obtain⟨rfl,rfl⟩:=h;simp only[Bool.and_eq_true,beq_iff_eq,Nat.blt_eq] at hq;obtain⟨⟨q1,q2⟩,q3,q4⟩:=hq;have hr:=oc (P:=C.P) (w:=w) (ty:=ty) h1 h2 hi hz q1 q2 q3 q4;have hcap:=fh w k 0 e;have eargs:Builtin.append_ ts ty #[.slice none 0 0,.int .i64 (Int.ofNat k)]=Builtin.append_ #[t,t1] ty #[.slice none 0 0,.int .i64 (Int.ofNat k)]:=by simp[Builtin.append_,e0,e1]
             have hor:OR ν (grownCap w k 0 e,0) (.cells 0 1 .nilP .lf) (.cells (Builtin.zeroCells (Value.int kz nz).cells k++Builtin.zeroCells (Value.int kz nz).cells (grownCap w k 0 e-k)) e):=by
               refine .cells _ _ _ _ _ e (0,0) (by omega) ⟨fun h=>(by cases h),?_⟩ (.inl rfl) fun j x hj=> ?_
               · simp[zeroCells_size,Value.cells];omega
               · obtain⟨j1,_⟩:=cells_at hj
                 omega
             obtain⟨g1,g2⟩:=R.alloc (w1:=w.drew) rfl ⟨rfl,rfl,rfl⟩ hor;refine⟨_,_,ν.add H.n w.heap.size (grownCap w k 0 e,0),by rw[eargs];exact hr,?_,?_,?_⟩
             · exact .sl0 (Nm.add_same _ _ _ _) (by rw[Nm.rm_same]) hcap (fun q hq=>by cases hq) (fun _ _=>by rw[Nm.rm_same])
             · rw[ea];exact g1
             · rw[ea];exact g2
         · cases h
       · cases h
     · cases h
   · cases h
 · cases h
theorem and4 {a b c d:Bool} {β:Type} {x:Option β} {r:β} (h:(bif a&&b&&(c&&d) then x else none)=some r):a=true∧b=true∧c=true∧d=true∧x=some r:=by
 cases a<;>cases b<;>cases c<;>cases d<;>first| (cases h;done)|exact⟨rfl,rfl,rfl,rfl,h⟩
theorem not_int {u:TypeId} (h:(match und C u with|some (.int _)=>(none:Option Unit)|some _=>some ()|none=>none)=some ()):∃ d,und C u=some d∧∀ k,d≠ .int k:=by
 split at h
 · cases h
 · rename_i d hd hu
   exact⟨d,hu,fun k e=>by subst e;exact hd _ rfl⟩
 · cases h
theorem aeg {kk z:Nat} {dd:M} {tt:Tr M} {ys:List M} {i:Nat} {x:M} (h:(Ob.cells (kk+ys.length) z dd (trOf kk tt ys)).at i=some x):(i<kk∧(Ob.cells kk z dd tt).at i=some x)∨(kk≤i∧ys[i-kk]? =some x):=by
 obtain⟨h1,h2⟩:=cells_at h;rw[j2] at h2;by_cases e:i<kk
 · left
   rw[if_pos e] at h2;refine⟨e,?_⟩;have hlt:Nat.blt i kk=true:=by simpa[Nat.blt_eq] using e
   subst h2;cases hq:tt.get i<;>simp[Ob.at,hlt,hq]
 · right
   rw[if_neg e,List.getElem?_eq_getElem (by omega)] at h2
   simp only[Option.getD_some] at h2;exact⟨by omega,by rw[List.getElem?_eq_getElem (by omega),h2]⟩
theorem a3k (R:WR C base ν H.get H.n w) {b cb:Nat} (hb:ν b=some cb) {kk ex:Nat} {dd:M} {tt:Tr M} (ho:H.get b=some (.cells kk ex dd tt)) {t t1 ty e:TypeId} {i:TypeInfo} {d:TypeDesc} {zv v:Value} (hu:und C t=some (.slice e)) (hd:und C t1=some d)
  (hdi:∀ k,d≠ .int k) (hi:C.P.info? e=some i) (hzv:i.zero=some zv) (zsz:zv.cells.size=i.size) {k m cap:Nat} {ys:List M} {news:List Value} (S:Src C.P w i.size v m news) (s3:VRs ν ys news) (c1:ys.length=m*i.size) (hc:k≤cap) (hr:cap=(ν.rm b).1)
  (hex:ex=i.size) (hkk:kk=k*i.size) (h47:(k+m)*i.bytes≤140737488355328) (hb0:i.bytes≠0):
  Turns C base ν H w (fun w' z=>(Builtin.append_ #[t,t1] ty #[.slice (some ⟨cb,0+(ν.rm b).2,none⟩) k cap,v]).run C.P w= .ok z w') (grownT H i.size tt dd kk ys (k+m) b).1 (grownT H i.size tt dd kk ys (k+m) b).2:=by
 obtain⟨ob,q1,q2⟩:=R.ob b _ cb ho rfl hb;cases q2 with|cells _ _ _ _ cs et fr hn hx hf hh=>
 have hbn:=(R.lt b cb hb).1;have hcb:=R.lt b cb hb;obtain⟨sf,hsf⟩:∃ sf,(ν.rm b).2=sf:=⟨_,rfl⟩
 rw[hsf] at hn hx hh ⊢;have hroom:cap*i.size+sf≤cs.size:=by rw[hr,← hex];exact hx.2
 have hyn:ys.length=news.length:=s3.1;have R1:=R.kill (R.lt b cb hb).1;have nolive:∀ b',c9 (upd H.get b .dead) b'→ν b'≠some cb:=fun b' ⟨q,g1,g2⟩ h=>by
  by_cases e:b'=b
  · subst e;rw[cr] at g1;cases g1;cases g2
  · rw[ax _ _ e] at g1
    exact e (R.inj b' b cb ⟨q,g1,g2⟩ ⟨_,ho,rfl⟩ h hb)
 have liv:∀ (o:Ob) b',b'<H.n→c9 (upd (upd H.get b .dead) H.n o) b'→c9 H.get b':=fun o b' hb' ⟨q,g1,g2⟩=>by
  rw[ax _ _ (by omega)] at g1
  by_cases e:b'=b
  · subst e;rw[cr] at g1;cases g1;cases g2
  · rw[ax _ _ e] at g1;exact⟨q,g1,g2⟩
 have has:∀ (o:Ob) b',b'<H.n→H.get b'≠none→upd (upd H.get b .dead) H.n o b'≠none:=fun o b' hb' h=>by
  rw[ax _ _ (by omega)]
  by_cases e:b'=b
  · rw[e,cr];simp
  · rw[ax _ _ e];exact h
 have sam:∀ (o:Ob) b',b'<H.n→ν b'=none→upd (upd H.get b .dead) H.n o b'=H.get b':=fun o b' hb' h=>by
  rw[ax _ _ (by omega),ax _ _ (fun e=>by rw[e,hb] at h;cases h)]
 have non:∀ (o:Ob) b',b'<H.n→H.get b'=none→upd (upd H.get b .dead) H.n o b'=none:=fun o b' hb' h=>by
  rw[ax _ _ (by omega),ax _ _ (fun e=>by rw[e,ho] at h;cases h)];exact h
 have eg:(grownT H i.size tt dd kk ys (k+m) b).2.get=upd (upd H.get b .dead) H.n (.cells (kk+ys.length) i.size dd (trOf kk tt ys)):=by
  simp only[grownT];rw[ea,qd];rfl
 by_cases hroom':k+m≤cap
 ·
  have hsum:k*i.size+m*i.size+sf≤cs.size:=by
    rw[← Nat.add_mul];exact Nat.le_trans (Nat.add_le_add_right (Nat.mul_le_mul_right _ hroom') _) hroom
  have hlen:0+sf+k*i.size+news.length≤cs.size:=by rw[← hyn,c1];omega
  obtain⟨g1,g2,g3,g4⟩:=ii news w cb (0+sf+k*i.size) q1;have run:=run_append_room2 (P:=C.P) (w:=w) (t:=t) (u:=t1) (ty:=ty) (b:=cb) (o:=0+sf) (sLen:=k) (sCap:=cap) hu hd hdi hi S hroom' (fun j hj=>by simp[World.cell?,q1,show sf+k*i.size+j<cs.size by omega]) (fun j hj=>by
    simp only[World.frozen?,q1];obtain⟨f1,f2⟩:=fr;simp only at hf ⊢;simp only[Bool.and_eq_false_iff,decide_eq_false_iff_not];omega)
  have hor:OR ν (cap,sf) (.cells (kk+ys.length) i.size dd (trOf kk tt ys)) (.cells (setL cs (0+sf+k*i.size) news) et fr):=by
    refine .cells _ _ _ _ _ et fr (by rw[dr];simp only;omega) ⟨fun h0=> ?_,by rw[dr];exact hroom⟩ (by rw[dr];exact hf) fun j x hj=> ?_
    · rw[dr]
      rw[h0] at c1;have:=hx.1 (by omega)
      simp only;omega
    · simp only
      rw[uu news cs _ (j+sf) (.inl hlen)];rcases aeg hj with⟨e1,e2⟩|⟨e1,e2⟩
      · rw[if_neg (by omega)]
        subst hex;exact hh j x e2
      · obtain⟨v',e3,e4⟩:=s3.get e2
        have:=(List.getElem?_eq_some_iff.1 e3).1;rw[if_pos (by omega),show j+sf-(0+sf+k*i.size)=j-kk by omega]
        exact⟨v',e3,e4⟩
  obtain⟨f1,f2⟩:=R1.fresh (w':=w.setCells cb (0+sf+k*i.size) news) g1 hor hcb.2.1 (by rw[g3];exact hcb.2.2) nolive (fun c' h _=>g2 c' h) (by rw[g3];exact Nat.le_refl _)
  refine⟨_,_,ν.add H.n cb (cap,sf),run,?_,by rw[eg];exact f1,?_⟩
  · have:=VR.sl (ν:=ν.add H.n cb (cap,sf)) H.n 0 (k+m) none cb cap (Nm.add_same _ _ _ _) hroom' (fun k hk=>by cases hk) (fun _ _=>by rw[Nm.rm_same])
    rwa [Nm.rm_same] at this
  · rw[eg]
    refine⟨Nat.le_succ _,fun b' hb'=>⟨Nm.add_ne _ _ _ (by omega),Nm.rm_ne _ _ _ (by omega)⟩,liv _,has _,sam _,non _,fun b' c' h1 h2=> ?_,by rw[g3];exact Nat.le_refl _,fun c' _ h=>g2 c' (fun e=>h b ⟨_,ho,rfl⟩ (by rw[hb,e])),g4⟩
    by_cases e:b'=H.n
    · subst e;rw[Nm.add_same] at h2;cases h2;exact .inr ⟨b,⟨_,ho,rfl⟩,hb⟩
    · rw[Nm.add_ne _ _ _ e] at h2;exact absurd (R.lt b' c' h2).1 (by omega)
 ·
  have hks:k*i.size+sf≤cs.size:=by omega
  have hlo:((cs.toList.drop sf).take (k*i.size)).length=k*i.size:=by simp;omega
  have hol:∀ w',w'.heap=w.heap→(Builtin.firstCells i.size k (.slice (some ⟨cb,0+sf,none⟩) k cap)).run C.P w'= .ok ((cs.toList.drop sf).take (k*i.size)).toArray w':=fun w' hw=>by
    simp only[Builtin.firstCells];have:=je (P:=C.P) (w:=w') (c:=cb) (i:=0+sf) (vs:=(cs.toList.drop sf).take (k*i.size)) fun j v hv=>by
      rw[kg hw];rw[List.getElem?_take] at hv;split at hv
      · simp[World.cell?,q1];simpa using hv
      · cases hv
    rw[hlo] at this;exact this
  have run:=run_append_grow2 (P:=C.P) (w:=w) (t:=t) (u:=t1) (ty:=ty) hu hd hdi hi hzv (base:=some ⟨cb,0+sf,none⟩) (sLen:=k) (sCap:=cap) (olds:=(cs.toList.drop sf).take (k*i.size)) S (by omega) hb0 h47 hol
  have hge:=fh w (k+m) cap e;generalize grownCap w (k+m) cap e=nc at run hge;have hsz:(((cs.toList.drop sf).take (k*i.size)).toArray++news.toArray++Builtin.zeroCells zv.cells (nc-(k+m))).size=nc*i.size:=by
    simp only[Array.size_append,List.size_toArray,hlo,zeroCells_size,zsz,Nat.sub_mul,Nat.add_mul];have:=Nat.mul_le_mul_right i.size hge;rw[Nat.add_mul] at this;rw[← hyn,c1];omega
  have hor:OR ν (nc,0) (.cells (kk+ys.length) i.size dd (trOf kk tt ys)) (.cells (((cs.toList.drop sf).take (k*i.size)).toArray++news.toArray++Builtin.zeroCells zv.cells (nc-(k+m))) e):=by
    have hkl:kk+ys.length≤nc*i.size:=by
      rw[hkk,c1,← Nat.add_mul];exact Nat.mul_le_mul_right _ hge
    refine .cells _ _ _ _ _ e (0,0) (by rw[hsz];exact hkl) ⟨fun h0=> ?_,by rw[hsz];exact Nat.le_refl _⟩ (.inl rfl) fun j x hj=> ?_
    · rw[hsz,hkk,c1,h0];simp
    · rcases aeg hj with⟨e1,e2⟩|⟨e1,e2⟩
      · subst hex
        obtain⟨v',e3,e4⟩:=hh j x e2;refine⟨v',?_,e4⟩;simp only[Nat.add_zero];rw[Array.getElem?_append_left (by simp;omega),Array.getElem?_append_left (by simp;omega)]
        simp only[List.getElem?_toArray,List.getElem?_take,List.getElem?_drop];rw[if_pos (by omega),Nat.add_comm sf j]
        simpa using e3
      · obtain⟨v',e3,e4⟩:=s3.get e2
        have hlt:=(List.getElem?_eq_some_iff.1 e3).1;refine⟨v',?_,e4⟩;simp only[Nat.add_zero];rw[Array.getElem?_append_left (by simp;omega),Array.getElem?_append_right (by simp;omega)]
        simp only[List.size_toArray,hlo,List.getElem?_toArray];rw[← hkk];exact e3
  obtain⟨g1,g2⟩:=R1.alloc (w1:=w.drew) rfl ⟨rfl,rfl,rfl⟩ hor;refine⟨_,_,ν.add H.n w.heap.size (nc,0),run,?_,by rw[eg];exact g1,?_⟩
  · exact .sl0 (Nm.add_same _ _ _ _) (by rw[Nm.rm_same]) hge (fun k hk=>by cases hk) (fun _ _=>by rw[Nm.rm_same])
  · rw[eg]
    exact⟨g2.num,g2.old,liv _,has _,sam _,non _,fun b' c' h1 h2=>by
      rcases g2.new b' c' h1 h2 with h|⟨b0,⟨q,p1,p2⟩,p3⟩
      · exact .inl h
      · by_cases e:b0=b
        · subst e;rw[cr] at p1;cases p1;cases p2
        · rw[ax _ _ e] at p1;exact .inr ⟨b0,⟨q,p1,p2⟩,p3⟩,g2.size,fun c' h1 h2=>g2.keep c' h1 (fun b0 ⟨q,p1,p2⟩=>by
      by_cases e:b0=b
      · subst e;rw[cr] at p1;cases p1;cases p2
      · rw[ax _ _ e] at p1;exact h2 b0 ⟨q,p1,p2⟩),g2.rest⟩
theorem aw3 (R:WR C base ν H.get H.n w) {ts:Array TypeId} {ty:TypeId} {x y r:M} {u v:Value} (hx:VR ν x u) (hy:VR ν y v) {H':Hp} (h:appendM C H ts x y=some (r,H')):
   Turns C base ν H w (fun w' z=>(Builtin.append_ ts ty #[u,v]).run C.P w= .ok z w') r H':=by
 unfold appendM at h;split at h
 · rename_i t ht0
   split at h
   · rename_i e hu
     split at h
     · rename_i i hi hty
       split at hty
       · rename_i t1 ht1
         obtain⟨d,hd,hdi⟩:=not_int hty;have eargs:Builtin.append_ ts ty #[u,v]=Builtin.append_ #[t,t1] ty #[u,v]:=by simp[Builtin.append_,ht0,ht1]
         rw[eargs];split at h
         · rename_i m ys h1 h2
           obtain⟨c1,c2,c3,c4,hh⟩:=and4 h;clear h;have h:=hh;clear hh;have c1:ys.length=m*i.size:=by simpa using c1
           have c2:m*i.bytes≤1099511627776:=by simpa[Nat.ble_eq] using c2
           simp only[Bool.and_eq_true,Bool.not_eq_true',beq_eq_false_iff_ne,ne_eq] at c3;obtain⟨⟨c3,c5⟩,c6⟩:=c3;obtain⟨zv,hzv,zsz⟩:∃ zv,i.zero=some zv∧zv.cells.size=i.size:=by
            split at c4
            · rename_i z hz;exact⟨z,hz,by simpa using c4⟩
            · cases c4
           obtain⟨news,s1,s2,s3⟩:=arg_ok R hy h1 h2 (.inl c1);have S:Src C.P w i.size v m news:=⟨s1,s2,by rw[← s3.1];exact c1,ones s3 c3⟩
           cases m with
           | zero=>
            simp only at h;have:news=[]:=List.eq_nil_of_length_eq_zero (by rw[S.num];simp)
            subst this;split at h<;>cases h
            · cases hx with|sl _ _ _ _ c cap hb hc hk hr=>
              exact⟨_,w,ν,fc hu hd hdi hi hc S,.sl _ _ _ _ c cap hb hc hk hr,R,R.refl⟩
            · cases hx
              exact⟨_,w,ν,fc hu hd hdi hi (Nat.zero_le _) S,.slz _ _,R,R.refl⟩
            · cases hx
              exact⟨_,w,ν,fc hu hd hdi hi (Nat.le_refl _) S,.nilS,R,R.refl⟩
           | succ m'=>
            simp only at h;split at h
            ·
              cases hx;obtain⟨v',w',ν',⟨e1,e2⟩,g2,g3,g4⟩:=auf (l:=[]) (ol:=[]) (m:=m'+1) (cap:=grownCap w (0+(m'+1)) 0 e) R .nil s3 (by simpa using c1) (by have:=fh w (0+(m'+1)) 0 e;omega) zsz e
              have hrun:=run_append_grow2 (P:=C.P) (w:=w) (t:=t) (u:=t1) (ty:=ty) hu hd hdi hi hzv (base:=none) (sLen:=0) (sCap:=0) (olds:=[]) S (by omega) c6 (by rw[Nat.zero_add];omega) (fun w' _=>rfl)
              cases h;refine⟨v',w',ν',?_,g2,g3,g4⟩;rw[e1,e2,hrun];simp
            ·
              rename_i b o k c;cases hx with|sl _ _ _ _ cb cap hb hc hk hr=>
              have hcap:cap=c:=hk c rfl;subst hcap;cases e0:Nat.ble (k+(m'+1)) cap
              · rw[e0] at h
                simp only[cond_false] at h;have hgt:cap<k+(m'+1):=by
                  have:¬ (k+(m'+1)≤cap):=by rw[← Nat.ble_eq,e0];simp
                  omega
                split at h
                · rename_i l hl
                  obtain⟨c7,hh⟩:=and1 h;clear h;have h:=hh;clear hh;have c7:(k+(m'+1)+cap)*i.bytes≤1099511627776:=by simpa[Nat.ble_eq] using c7
                  obtain⟨ol,q1,q2,q3⟩:=R.rds (H:=H) (fun b o h _=>h) hb (k*i.size) o hl
                  obtain⟨v',w',ν',⟨e1,e2⟩,g2,g3,g4⟩:=auf (m:=k+(m'+1)) (cap:=grownCap w (k+(m'+1)) cap e) R q2 s3 (by
                   rw[List.length_append,q2.1,q1,c1];exact(Nat.add_mul _ _ _).symm) (fh _ _ _ _) zsz e
                  have hrun:=run_append_grow2 (P:=C.P) (w:=w) (t:=t) (u:=t1) (ty:=ty) hu hd hdi hi hzv (base:=some ⟨cb,o+(ν.rm b).2,none⟩) (sLen:=k) (sCap:=cap) (olds:=ol) S hgt c6 (by
                   have:(k+(m'+1))*i.bytes≤(k+(m'+1)+cap)*i.bytes:=Nat.mul_le_mul_right _ (by omega)
                   omega) (fun w' hw=>by
                    simp only[Builtin.firstCells];have:=je (P:=C.P) (w:=w') (c:=cb) (i:=o+(ν.rm b).2) (vs:=ol) fun j v hv=>by rw[kg hw];exact q3 j v hv
                    rw[q1] at this;exact this)
                  cases h;refine⟨v',w',ν',?_,g2,g3,g4⟩;rw[e1,e2,hrun]
                · cases h
              · rw[e0] at h
                simp only[cond_true] at h;have hle:k+(m'+1)≤cap:=by rw[← Nat.ble_eq,e0]
                split at h
                · rename_i H1 hH
                  cases h;obtain⟨g1,g2,g3,g4,g5,g6⟩:=wr_ok R hb s3 hH;rw[show o+k*i.size+(ν.rm b).2=o+(ν.rm b).2+k*i.size by omega] at g2 g3 g5 g6
                  exact⟨_,_,ν,run_append_room2 hu hd hdi hi S hle g2 g3,.sl b o _ _ cb cap hb hle (fun k hk=>by cases hk;rfl) (fun h=>by cases h),g5,g6⟩
                · cases h
            ·
              rename_i b o k;cases hx with|sl _ _ _ _ cb cap hb hc hk hr=>
              split at h
              · rename_i kk ex dd tt ho
                obtain⟨d1,d2,d3,hh⟩:=and3 h;cases hh;simp only[Bool.and_eq_true,beq_iff_eq,Nat.ble_eq,Nat.blt_eq] at d1 d2 d3;obtain⟨⟨d3,d4⟩,d5⟩:=d3;subst d2;exact a3k R hb ho hu hd hdi hi hzv zsz S s3 c1 hc (hr rfl rfl) d1 d3 (by omega) c6
              · cases h
            · cases h
         · cases h
       · cases hty
     · cases h
   · cases h
 · cases h
end
