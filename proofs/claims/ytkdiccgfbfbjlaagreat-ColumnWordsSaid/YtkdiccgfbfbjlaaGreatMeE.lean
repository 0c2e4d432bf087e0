import Derived.Test.YtkdiccgfbfbjlaaGreatMeD
import Derived.Laws.Cells
import Derived.Laws.Append
import Derived.Laws.IdiomCopy
namespace Go.Me
open Go
variable [Gam]
set_option linter.unusedSectionVars false
inductive OR (ν:Nm) (ρ:Nat×Nat):Ob→Obj→Prop
 |cells (n:Nat) (ex:Nat) (d:M) (t:Tr M) (cs:Array Value) (e:TypeId) (fr:Nat×Nat) (hn:n+ρ.2≤cs.size) (hx:(ex=0→cs.size=n+ρ.2)∧ρ.1*ex+ρ.2≤cs.size) (hf:fr.1=fr.2∨cs.size≤fr.1)
  (h:∀ (i:Nat) x,(Ob.cells n ex d t).at i=some x→∃ v,cs[i+ρ.2]? =some v∧VR ν x v):OR ν ρ (.cells n ex d t) (.cells cs e fr)
 |map (es:List (M×M×Nat)) (cl:Nat) (en:List MapEntry) (hl:es.length=en.length)
  (h:∀ (i:Nat) x y,es[i]? =some x→en[i]? =some y→VR ν x.1 y.key∧VR ν x.2.1 y.val∧x.2.2=y.born):OR ν ρ (.map es cl) (.map en.toArray cl)
def Ob.live:Ob→Bool
 | .dead=>false
 |_=>true
abbrev Gt:=Nat→Option Ob
def c9 (g:Gt) (b:Nat):Prop:=∃ o,g b=some o∧o.live=true
structure WR (C:Cfg) (base:Nat) (ν:Nm) (g:Gt) (n:Nat) (w:World):Prop where
 lt:∀ b c,ν b=some c→b<n∧base≤c∧c<w.heap.size
 ob:∀ b o c,g b=some o→o.live=true→ν b=some c→∃ ob,w.heap[c]? =some ob∧OR ν (ν.rm b) o ob
 inj:∀ b b' c,c9 g b→c9 g b'→ν b=some c→ν b'=some c→b=b'
 gl:∀ k cs,C.gobj k=some cs→k<base∧∃ (vs:Array Value) (e:TypeId) (fr:Nat×Nat),w.heap[k]? =some (.cells vs e fr)∧∀ (i:Nat) x,cs[i]? =some x→∃ v,vs[i]? =some v∧VR Nm.none x v
 vg:∀ k cs,C.vobj k=some cs→(Gam.at_ k).1<base∧∃ (vs:Array Value) (ob:Obj),w.heap[(Gam.at_ k).1]? =some ob∧(∀ W:World,W.heap[(Gam.at_ k).1]? =some ob→∀ (j:Nat) v,vs[j]? =some v→W.cell? ⟨(Gam.at_ k).1,j+(Gam.at_ k).2,none⟩=some v)∧∀ (i:Nat) x,cs[i]? =some x→∃ v,vs[i]? =some v∧VR Nm.none x v
 big:base≤w.heap.size
 dom:∀ b o,g b=some o→b<n
structure St (ν:Nm) (g:Gt) (n:Nat) (w:World) (ν':Nm) (g':Gt) (n':Nat) (w':World):Prop where
 num:n≤n'
 old:∀ b,b<n→ν' b=ν b∧ν'.rm b=ν.rm b
 liv:∀ b,b<n→c9 g' b→c9 g b
 has:∀ b,b<n→g b≠none→g' b≠none
 same:∀ b,b<n→ν b=none→g' b=g b
 non:∀ b,b<n→g b=none→g' b=none
 new:∀ b c,n≤b→ν' b=some c→w.heap.size≤c∨∃ b0,c9 g b0∧ν b0=some c
 size:w.heap.size≤w'.heap.size
 keep:∀ c,c<w.heap.size→(∀ b,c9 g b→ν b≠some c)→w'.heap[c]? =w.heap[c]?
 rest:w'.os=w.os∧w'.tape=w.tape∧w'.output=w.output
theorem St.refl (ν:Nm) (g:Gt) (n:Nat) (w:World) (h:∀ b c,ν b=some c→b<n):St ν g n w ν g n w:=
 ⟨Nat.le_refl _,fun _ _=>⟨rfl,rfl⟩,fun _ _ h=>h,fun _ _ h=>h,fun _ _ _=>rfl,fun _ _ h=>h,fun b c h1 h2=>absurd (h b c h2) (by omega),Nat.le_refl _,fun _ _ _=>rfl,rfl,rfl,rfl⟩
section
variable {C:Cfg} {base:Nat} {ν ν' ν'':Nm} {g g' g'':Gt} {n n' n'':Nat} {w w' w'':World}
theorem WR.refl (R:WR C base ν g n w):St ν g n w ν g n w:=St.refl ν g n w fun b c h=>(R.lt b c h).1
theorem St.le (S:St ν g n w ν' g' n' w') (R:WR C base ν g n w):ν.le ν':=fun b c h=>by obtain⟨h1,h2⟩:=S.old b (R.lt b c h).1;exact⟨h1.trans h,h2⟩
theorem St.trans (_:WR C base ν g n w) (S:St ν g n w ν' g' n' w') (T:St ν' g' n' w' ν'' g'' n'' w''):St ν g n w ν'' g'' n'' w'':=by
 have cl:∀ b c,c9 g' b→ν' b=some c→w.heap.size≤c∨∃ b0,c9 g b0∧ν b0=some c:=fun b c h1 h2=>by
   by_cases hb:b<n
   · exact .inr ⟨b,S.liv b hb h1,by rw[← (S.old b hb).1];exact h2⟩
   · exact S.new b c (by omega) h2
 refine⟨Nat.le_trans S.num T.num,fun b hb=>by obtain⟨h1,h2⟩:=T.old b (Nat.lt_of_lt_of_le hb S.num);obtain⟨h3,h4⟩:=S.old b hb;exact⟨h1.trans h3,h2.trans h4⟩,fun b hb h=>S.liv b hb (T.liv b (Nat.lt_of_lt_of_le hb S.num) h),fun b hb h=>T.has b (Nat.lt_of_lt_of_le hb S.num) (S.has b hb h),fun b hb h=>(T.same b (Nat.lt_of_lt_of_le hb S.num) (by rw[(S.old b hb).1];exact h)).trans (S.same b hb h),fun b hb h=>T.non b (Nat.lt_of_lt_of_le hb S.num) (S.non b hb h),fun b c hb h=> ?_,Nat.le_trans S.size T.size,fun c hc h=> ?_,?_⟩
 · by_cases hb':b<n'
   · rw[(T.old b hb').1] at h;exact S.new b c hb h
   · rcases T.new b c (by omega) h with h1|⟨b0,h1,h2⟩
     · exact .inl (Nat.le_trans S.size h1)
     · exact cl b0 c h1 h2
 · rw[T.keep c (Nat.lt_of_lt_of_le hc S.size) fun b h1 h2=> ?_,S.keep c hc h]
   rcases cl b c h1 h2 with h3|⟨b0,h3,h4⟩
   · omega
   · exact h b0 h3 h4
 · obtain⟨a1,a2,a3⟩:=S.rest
   obtain⟨b1,b2,b3⟩:=T.rest;exact⟨b1.trans a1,b2.trans a2,b3.trans a3⟩
theorem WR.sub (R:WR C base ν g n w) (h:∀ b o,g' b=some o→g b=some o):WR C base ν g' n w:=
 ⟨R.lt,fun b o c h1 h2 h3=>R.ob b o c (h b o h1) h2 h3,fun b b' c ⟨o,h1,h2⟩ ⟨o',h3,h4⟩=>R.inj b b' c ⟨o,h b o h1,h2⟩ ⟨o',h b' o' h3,h4⟩,R.gl,R.vg,R.big,fun b o h1=>R.dom b o (h b o h1)⟩
theorem OR.mono {ρ:Nat×Nat} {o:Ob} {ob:Obj} (h:OR ν ρ o ob) (hl:ν.le ν'):OR ν' ρ o ob:=by
 cases h with
 |cells n ex d t cs e fr hn hx hf h=>exact .cells n ex d t cs e fr hn hx hf fun i x hi=>let⟨v,h1,h2⟩:=h i x hi;⟨v,h1,h2.mono hl⟩
 |map es cl en hl' h=>exact .map es cl en hl' fun i x y h1 h2=>let⟨a,b,c⟩:=h i x y h1 h2;⟨a.mono hl,b.mono hl,c⟩
theorem WR.drew (R:WR C base ν g n w):WR C base ν g n w.drew:=⟨R.lt,R.ob,R.inj,R.gl,R.vg,R.big,R.dom⟩
theorem St.drew (S:St ν g n w.drew ν' g' n' w'):St ν g n w ν' g' n' w':=⟨S.num,S.old,S.liv,S.has,S.same,S.non,S.new,S.size,S.keep,S.rest⟩
theorem St.drew' (S:St ν g n w ν' g' n' w'):St ν g n w ν' g' n' w'.drew:=⟨S.num,S.old,S.liv,S.has,S.same,S.non,S.new,S.size,S.keep,S.rest⟩
theorem WR.rd (R:WR C base ν g n w) {H:Hp} (hs:∀ b o,H.get b=some o→o.live=true→g b=some o) {b c i:Nat} {x:M} (hb:ν b=some c) (h:H.rd b i=some x):∃ v,w.cell? ⟨c,i+(ν.rm b).2,none⟩=some v∧VR ν x v:=by
 unfold Hp.rd at h;split at h
 · rename_i o ho
   have hl:o.live=true:=by cases o<;>first|rfl| (simp[Ob.at] at h;done)
   obtain⟨ob,h1,h2⟩:=R.ob b o c (hs b o ho hl) hl hb;cases h2 with
   | cells n ex d t cs e fr hn hx hf hi=>
    obtain⟨v,h3,h4⟩:=hi i x h;exact⟨v,by simp[World.cell?,h1,h3],h4⟩
   |map=>simp[Ob.at] at h
 · cases h
theorem WR.rds (R:WR C base ν g n w) {H:Hp} (hs:∀ b o,H.get b=some o→o.live=true→g b=some o) {b c:Nat} (hb:ν b=some c):∀ (k i:Nat) {l:List M},H.rds b i k=some l→
  ∃ vs:List Value,vs.length=k∧VRs ν l vs∧∀ (j:Nat) v,vs[j]? =some v→w.cell? ⟨c,i+(ν.rm b).2+j,none⟩=some v
 |0,i,l,h=>by simp only[Hp.rds,Option.some.injEq] at h;subst h;exact⟨[],rfl,.nil,by simp⟩
 | k+1,i,l,h=>by
  unfold Hp.rds at h;split at h
  · rename_i x l' h1 h2
    cases h;obtain⟨v,h3,h4⟩:=R.rd hs hb h1;obtain⟨vs,h5,h6,h7⟩:=R.rds hs hb k (i+1) h2;refine⟨v::vs,by simp[h5],.cons h4 h6,fun j u hu=> ?_⟩
    cases j with
    |zero=>simp at hu;subst hu;exact h3
    |succ j=>simp at hu;rw[show i+(ν.rm b).2+(j+1)=i+1+(ν.rm b).2+j by omega];exact h7 j u hu
  · cases h
theorem b7 (c o k:Nat):(⟨c,o,none⟩:Addr).add k=⟨c,o+k,none⟩:=by
 unfold Addr.add;split<;>simp_all
theorem je {P:Program} {c i:Nat} {vs:List Value} (h:∀ (j:Nat) v,vs[j]? =some v→w.cell? ⟨c,i+j,none⟩=some v):(loadCells ⟨c,i,none⟩ vs.length).run P w= .ok vs.toArray w:=by
 have:=run_loadCells (P:=P) (w:=w) ⟨c,i,none⟩ vs.length (fun j=>vs.getD j undef) (fun j hj=>by
   rw[b7];exact h j _ (by simp[List.getD,List.getElem?_eq_getElem hj]))
 rw[this]
 congr 1
 apply Array.ext';apply List.ext_getElem
 · simp
 · intro j h1 h2
   simp[List.getD] at h1 h2 ⊢;simp[h2]
end
section
variable {C:Cfg} {w:World}
theorem ab {t:TypeId} {d:TypeDesc} (h:und C t=some d):(underlying t).run C.P w= .ok d w:=run_underlying h w
theorem aw {t:TypeId} {z:Nat} (h:size C t=some z):(sizeOf t).run C.P w= .ok z w:=by
 unfold size at h;split at h
 · rename_i i hi;cases h;simp[sizeOf,typeInfo,hi]
 · cases h
theorem dt {t:TypeId} {b:Bool} (h:aggQ C t=some b):(isAgg t).run C.P w= .ok b w:=by
 unfold aggQ at h;split at h
 · rename_i hu;cases h;simp[isAgg,ab hu]
 · rename_i hu;cases h;simp[isAgg,ab hu]
 · rename_i d h1 h2 hu
   cases h;simp only[isAgg,Sem.run_bind,ab hu,Result.andThen_ok];cases d<;>first|rfl|exact(h1 _ hu).elim|exact(h2 _ _ hu).elim
 · cases h
theorem akj {t:TypeId} {x:M} {ν:Nm} (h:zero C t=some x):∃ v,(zeroValue t).run C.P w= .ok v w∧VR ν x v:=by
 unfold zero at h;split at h
 · rename_i i hi
   split at h
   · rename_i v hv
     exact⟨v,by simp[zeroValue,typeInfo,hi,hv],ajz h⟩
   · cases h
 · cases h
end
