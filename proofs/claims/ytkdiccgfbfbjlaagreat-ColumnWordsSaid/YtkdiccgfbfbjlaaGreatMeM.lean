import Derived.Test.YtkdiccgfbfbjlaaGreatMeL
namespace Go.Me
open Go
variable [Gam]
set_option linter.unusedSectionVars false
set_option linter.unusedSimpArgs false
set_option linter.unusedVariables false
def Nm.add (ν:Nm) (n c:Nat) (ρ:Nat×Nat):Nm:=⟨fun b=>if b=n then some c else ν b,fun b=>if b=n then ρ else ν.rm b⟩
theorem Nm.add_same (ν:Nm) (n c:Nat) (ρ:Nat×Nat):ν.add n c ρ n=some c:=by simp[Nm.add]
theorem Nm.add_ne (ν:Nm) {n b:Nat} (c:Nat) (ρ:Nat×Nat) (h:b≠n):ν.add n c ρ b=ν b:=by simp[Nm.add,h]
theorem Nm.rm_same (ν:Nm) (n c:Nat) (ρ:Nat×Nat):(ν.add n c ρ).rm n=ρ:=by simp[Nm.add]
theorem Nm.rm_ne (ν:Nm) {n b:Nat} (c:Nat) (ρ:Nat×Nat) (h:b≠n):(ν.add n c ρ).rm b=ν.rm b:=by simp[Nm.add,h]
def upd (g:Gt) (b:Nat) (o:Ob):Gt:=fun b'=>if b'=b then some o else g b'
theorem cr (g:Gt) (b:Nat) (o:Ob):upd g b o b=some o:=by simp[upd]
theorem ax (g:Gt) {b b':Nat} (o:Ob) (h:b'≠b):upd g b o b'=g b':=by simp[upd,h]
theorem qd (H:Hp) (b:Nat) (o:Ob):(H.put b o).get=upd H.get b o:=by
 funext b'
 simp only[Hp.get,Hp.put,Tr.get_put,upd]
theorem ea (H:Hp) (o:Ob):(H.push o).get=upd H.get H.n o:=by
 funext b'
 simp only[Hp.get,Hp.push,Tr.get_put,upd]
section
variable {C:Cfg} {base:Nat} {ν:Nm} {g:Gt} {n:Nat} {w:World}
theorem WR.turn (R:WR C base ν g n w) {b c:Nat} {o o':Ob} (hb:ν b=some c) (hg:g b=some o) (hl:o.live=true) {w':World} {ob:Obj} (hc:w'.heap[c]? =some ob) (ho:OR ν (ν.rm b) o' ob) (hn:∀ c',c'≠c→w'.heap[c']? =w.heap[c']?)
   (hsz:w'.heap.size=w.heap.size) (hr:w'.os=w.os∧w'.tape=w.tape∧w'.output=w.output):WR C base ν (upd g b o') n w'∧St ν g n w ν (upd g b o') n w':=by
 have live:∀ b',c9 (upd g b o') b'→c9 g b':=fun b' ⟨q,h1,h2⟩=>by
   by_cases e:b'=b
   · subst e;exact⟨o,hg,hl⟩
   · rw[ax _ _ e] at h1;exact⟨q,h1,h2⟩
 refine⟨⟨fun b c h=>by rw[hsz];exact R.lt b c h,fun b' q c' h1 h2 h3=> ?_,fun b1 b2 c' h1 h2=>R.inj b1 b2 c' (live _ h1) (live _ h2),fun k xs hk=> ?_,fun k xs hk=> ?_,by rw[hsz];exact R.big,fun b' q h=> ?_⟩,
   ⟨Nat.le_refl _,fun _ _=>⟨rfl,rfl⟩,fun b' _ h=>live b' h,fun b' _ h=> ?_,fun b' _ h=>ax _ _ (fun e=>by rw[e,hb] at h;cases h),fun b' _ h=>by rw[ax _ _ (fun e=>by rw[e,hg] at h;cases h)];exact h,fun b c h1 h2=>absurd (R.lt b c h2).1 (by omega),by rw[hsz];exact Nat.le_refl _,fun c' _ h=>hn c' (fun e=>h b ⟨o,hg,hl⟩ (by rw[hb,e])),hr⟩⟩
 · by_cases e:b'=b
   · subst e
     rw[cr] at h1;cases h1;rw[hb] at h3;cases h3;exact⟨ob,hc,ho⟩
   · rw[ax _ _ e] at h1
     have hne:c'≠c:=fun e2=>e (R.inj b' b c' ⟨q,h1,h2⟩ ⟨o,hg,hl⟩ h3 (by rw[hb,e2]))
     rw[hn c' hne];exact R.ob b' q c' h1 h2 h3
 · obtain⟨h1,vs,e,fr,h2,h3⟩:=R.gl k xs hk
   have:=(R.lt b c hb).2.1;exact⟨h1,vs,e,fr,by rw[hn k (by omega)];exact h2,h3⟩
 · obtain⟨h1,vs,e,h2,hcv,h3⟩:=R.vg k xs hk
   have:=(R.lt b c hb).2.1;exact⟨h1,vs,e,by rw[hn _ (by omega)];exact h2,hcv,h3⟩
 · by_cases e:b'=b
   · rw[e];exact(R.lt b c hb).1
   · rw[ax _ _ e] at h;exact R.dom b' q h
 · by_cases e:b'=b
   · rw[e,cr];simp
   · rw[ax _ _ e];exact h
theorem WR.kill (R:WR C base ν g n w) {b:Nat} (hb:b<n):WR C base ν (upd g b .dead) n w:=by
 have h:∀ b' o,upd g b .dead b'=some o→o.live=true→g b'=some o:=fun b' o h1 h2=>by
   by_cases e:b'=b
   · subst e;rw[cr] at h1;cases h1;cases h2
   · rwa [ax _ _ e] at h1
 refine⟨R.lt,fun b o c h1 h2 h3=>R.ob b o c (h b o h1 h2) h2 h3,fun b b' c ⟨o,h1,h2⟩ ⟨o',h3,h4⟩=>R.inj b b' c ⟨o,h b o h1 h2,h2⟩ ⟨o',h b' o' h3 h4,h4⟩,R.gl,R.vg,R.big,fun b' o h1=> ?_⟩
 by_cases e:b'=b
 · rw[e];exact hb
 · rw[ax _ _ e] at h1;exact R.dom b' o h1
theorem WR.fresh (R:WR C base ν g n w) {w':World} {c:Nat} {ρ:Nat×Nat} {o:Ob} {ob:Obj} (hc:w'.heap[c]? =some ob) (ho:OR ν ρ o ob) (hbase:base≤c) (hlt:c<w'.heap.size) (hno:∀ b,c9 g b→ν b≠some c) (hn:∀ c',c'≠c→c'<w.heap.size→w'.heap[c']? =w.heap[c']?)
   (hsz:w.heap.size≤w'.heap.size):WR C base (ν.add n c ρ) (upd g n o) (n+1) w'∧ν.le (ν.add n c ρ):=by
 have hle:ν.le (ν.add n c ρ):=fun b d h=>by
   have hb:b≠n:=by have:=(R.lt b d h).1;omega
   rw[Nm.add_ne _ _ _ hb,Nm.rm_ne _ _ _ hb];exact⟨h,rfl⟩
 refine⟨⟨fun b d h=> ?_,fun b q d h1 h2 h3=> ?_,fun b1 b2 d ⟨q1,h1,h2⟩ ⟨q2,h3,h4⟩ h5 h6=> ?_,fun k xs hk=> ?_,fun k xs hk=> ?_,Nat.le_trans R.big hsz,fun b q h=> ?_⟩,hle⟩
 · by_cases e:b=n
   · subst e;rw[Nm.add_same] at h;cases h;exact⟨Nat.lt_succ_self _,hbase,hlt⟩
   · rw[Nm.add_ne _ _ _ e] at h;have:=R.lt b d h;exact⟨by omega,this.2.1,by omega⟩
 · by_cases e:b=n
   · subst e
     rw[Nm.add_same] at h3;cases h3;rw[cr] at h1;cases h1;rw[Nm.rm_same];exact⟨ob,hc,ho.mono hle⟩
   · rw[Nm.rm_ne _ _ _ e]
     rw[Nm.add_ne _ _ _ e] at h3;rw[ax _ _ e] at h1;obtain⟨ob',h4,h5⟩:=R.ob b q d h1 h2 h3;exact⟨ob',by rw[hn d (fun e2=>hno b ⟨q,h1,h2⟩ (by rw[h3,e2])) (R.lt b d h3).2.2];exact h4,h5.mono hle⟩
 · by_cases e1:b1=n<;>by_cases e2:b2=n
   · rw[e1,e2]
   · subst e1
     rw[Nm.add_same] at h5;rw[Nm.add_ne _ _ _ e2] at h6;rw[ax _ _ e2] at h3;exact absurd (h6.trans h5.symm) (fun e=>hno b2 ⟨q2,h3,h4⟩ (by rw[e]))
   · subst e2
     rw[Nm.add_ne _ _ _ e1] at h5;rw[Nm.add_same] at h6;rw[ax _ _ e1] at h1;exact absurd (h5.trans h6.symm) (fun e=>hno b1 ⟨q1,h1,h2⟩ (by rw[e]))
   · rw[Nm.add_ne _ _ _ e1] at h5;rw[Nm.add_ne _ _ _ e2] at h6
     rw[ax _ _ e1] at h1;rw[ax _ _ e2] at h3;exact R.inj b1 b2 d ⟨q1,h1,h2⟩ ⟨q2,h3,h4⟩ h5 h6
 · obtain⟨h1,vs,e,fr,h2,h3⟩:=R.gl k xs hk
   exact⟨h1,vs,e,fr,by rw[hn k (by omega) (Nat.lt_of_lt_of_le h1 R.big)];exact h2,h3⟩
 · obtain⟨h1,vs,e,h2,hcv,h3⟩:=R.vg k xs hk
   exact⟨h1,vs,e,by rw[hn _ (by omega) (Nat.lt_of_lt_of_le h1 R.big)];exact h2,hcv,h3⟩
 · by_cases e:b=n
   · omega
   · rw[ax _ _ e] at h;have:=R.dom b q h;omega
theorem WR.alloc (R:WR C base ν g n w) {w1:World} (hw:w1.heap=w.heap) (hr:w1.os=w.os∧w1.tape=w.tape∧w1.output=w.output) {ρ:Nat×Nat} {o:Ob} {ob:Obj} (ho:OR ν ρ o ob):
   WR C base (ν.add n w.heap.size ρ) (upd g n o) (n+1) (w1.alloc ob)∧St ν g n w (ν.add n w.heap.size ρ) (upd g n o) (n+1) (w1.alloc ob):=by
 have hsz:(w1.alloc ob).heap.size=w.heap.size+1:=by simp[hw]
 have hnew:(w1.alloc ob).heap[w.heap.size]? =some ob:=by simp[World.alloc,hw]
 have hold:∀ c',c'≠w.heap.size→c'<w.heap.size→(w1.alloc ob).heap[c']? =w.heap[c']? :=fun c' _ h=>by
   simp only[World.alloc,hw];rw[Array.getElem?_push_lt h,Array.getElem?_eq_getElem h]
 refine⟨(R.fresh hnew ho R.big (by omega) (fun b _ h=>by have:=(R.lt b _ h).2.2;omega) hold (by omega)).1,
   ⟨by omega,fun b hb=>⟨Nm.add_ne _ _ _ (by omega),Nm.rm_ne _ _ _ (by omega)⟩,fun b hb ⟨q,h1,h2⟩=>⟨q,by rwa [ax _ _ (by omega)] at h1,h2⟩,fun b hb h=>by rw[ax _ _ (by omega)];exact h,fun b hb _=>ax _ _ (by omega),fun b hb h=>by rw[ax _ _ (by omega)];exact h,fun b c hb h=> ?_,by omega,fun c hc _=>hold c (by omega) hc,hr⟩⟩
 by_cases e:b=n
 · subst e;rw[Nm.add_same] at h;cases h;exact .inl (Nat.le_refl _)
 · rw[Nm.add_ne _ _ _ e] at h;exact absurd (R.lt b c h).1 (by omega)
def setL (cs:Array Value):Nat→List Value→Array Value
 |_,[]=>cs
 |o,v::r=>setL (cs.setIfInBounds o v) (o+1) r
theorem dr:∀ (vs:List Value) (cs:Array Value) (o:Nat),(setL cs o vs).size=cs.size
 | [],_,_=>rfl
 |v::r,cs,o=>by rw[setL,dr r];simp
theorem uu:∀ (vs:List Value) (cs:Array Value) (o j:Nat),o+vs.length≤cs.size∨vs=[]→(setL cs o vs)[j]? =if o≤j∧j<o+vs.length then vs[j-o]? else cs[j]?
 | [],cs,o,j,_=>by rw[setL,if_neg (by simp)]
 | v::r,cs,o,j,h=>by
  have h:o+(r.length+1)≤cs.size:=by simpa using h
  rw[setL,uu r (cs.setIfInBounds o v) (o+1) j (by simp;omega)]
  by_cases e:j=o
  · subst e
    rw[if_neg (by omega),if_pos (by simp)]
    simp[show j<cs.size by omega]
  · by_cases e2:o+1≤j∧j<o+1+r.length
    · rw[if_pos e2,if_pos (by simp;omega),show j-o=(j-(o+1))+1 by omega]
      simp
    · rw[if_neg e2,if_neg (by simp;omega),Array.getElem?_setIfInBounds_ne (Ne.symm e)]
theorem ii:∀ (vs:List Value) (w:World) (c o:Nat) {cs:Array Value} {e:TypeId} {fr:Nat×Nat},w.heap[c]? =some (.cells cs e fr)→
  (w.setCells c o vs).heap[c]? =some (.cells (setL cs o vs) e fr)∧(∀ c',c'≠c→(w.setCells c o vs).heap[c']? =w.heap[c']?)∧(w.setCells c o vs).heap.size=w.heap.size∧((w.setCells c o vs).os=w.os∧(w.setCells c o vs).tape=w.tape∧(w.setCells c o vs).output=w.output)
 | [],w,c,o,cs,e,fr,h=>⟨h,fun _ _=>rfl,rfl,rfl,rfl,rfl⟩
 | v::r,w,c,o,cs,e,fr,h=>by
  have h1:(w.setCell ⟨c,o,none⟩ v).heap[c]? =some (.cells (cs.setIfInBounds o v) e fr):=by
    simp[World.setCell,Array.getElem?_modify,h]
  obtain⟨g1,g2,g3,g4⟩:=ii r (w.setCell ⟨c,o,none⟩ v) c (o+1) h1;refine⟨g1,fun c' hc=> ?_,?_,?_⟩
  · rw[World.setCells,g2 c' hc]
    simp[World.setCell,Array.getElem?_modify,Ne.symm hc]
  · rw[World.setCells,g3];simp
  · obtain⟨q1,q2,q3⟩:=g4
    exact⟨q1,q2,q3⟩
theorem pn:∀ (l:List M) (i:Nat) {o o':Ob},o.sets i l=some o'→l=[]∧o'=o∨∃ k ex d t t',o= .cells k ex d t∧o'= .cells k ex d t'∧i+l.length≤k∧l.all M.cell=true∧
    ∀ j x,o'.at j=some x→if i≤j∧j<i+l.length then l[j-i]? =some x else o.at j=some x
 | [],i,o,o',h=>by simp only[Ob.sets,Option.some.injEq] at h;exact .inl ⟨rfl,h.symm⟩
 | x::l,i,o,o',h=>by
  unfold Ob.sets at h;split at h
  · rename_i o1 h1
    unfold Ob.set at h1;split at h1
    · rename_i k ex d t
      obtain⟨h2,h3,h4⟩:=and2 h1;cases h4;have h2:i<k:=by simpa[Nat.blt_eq] using h2
      have at1:∀ j y,(Ob.cells k ex d (t.put i x)).at j=some y→if j=i then y=x else(Ob.cells k ex d t).at j=some y:=fun j y hy=>by
        obtain⟨g1,g2⟩:=cells_at hy;rw[Tr.get_put] at g2;by_cases e:j=i
        · rw[if_pos e] at g2 ⊢;simpa using g2
        · rw[if_neg e] at g2 ⊢
          have hlt:Nat.blt j k=true:=by simpa[Nat.blt_eq] using g1
          subst g2;cases hq:t.get j<;>simp[Ob.at,hlt,hq]
      rcases pn l (i+1) h with⟨rfl,rfl⟩|⟨k',ex',d',t1,t',e1,rfl,e3,e4,e5⟩
      · refine .inr ⟨k,ex,d,t,t.put i x,rfl,rfl,by simp;omega,by simp[h3],fun j y hy=> ?_⟩
        have:=at1 j y hy;by_cases e:j=i
        · subst e;rw[if_pos rfl] at this;rw[if_pos (by simp)];simp[this]
        · rw[if_neg e] at this;rw[if_neg (by simp;omega)];exact this
      · cases e1
        refine .inr ⟨k,ex,d,t,t',rfl,rfl,by simp;omega,by simp[h3,e4],fun j y hy=> ?_⟩
        have:=e5 j y hy;by_cases e:j=i
        · subst e
          rw[if_neg (by omega)] at this
          have:=at1 j y this;rw[if_pos rfl] at this;rw[if_pos (by simp)]
          simp[this]
        · by_cases e2:i+1≤j∧j<i+1+l.length
          · rw[if_pos e2] at this
            rw[if_pos (by simp;omega),show j-i=(j-(i+1))+1 by omega]
            simpa using this
          · rw[if_neg e2] at this
            have:=at1 j y this;rw[if_neg e] at this;rw[if_neg (by simp;omega)]
            exact this
    · cases h1
  · cases h
theorem wr_ok {H H':Hp} (R:WR C base ν H.get H.n w) {b c i:Nat} (hb:ν b=some c) {l:List M} {vs:List Value} (hv:VRs ν l vs) (h:H.wr b i l=some H'):
   H'.n=H.n∧(∀ j,j<vs.length→(w.cell? ⟨c,i+(ν.rm b).2+j,none⟩).isSome=true)∧(∀ j,j<vs.length→w.frozen? ⟨c,i+(ν.rm b).2+j,none⟩=false)∧(∀ v∈vs,v.oneCell'=true)∧
     WR C base ν H'.get H'.n (w.setCells c (i+(ν.rm b).2) vs)∧St ν H.get H.n w ν H'.get H'.n (w.setCells c (i+(ν.rm b).2) vs):=by
 unfold Hp.wr at h;split at h
 · rename_i o ho
   split at h
   · rename_i o' ho'
     obtain⟨h1,h2⟩:=and1 h;cases h2;have hone:l.all M.cell=true→∀ v∈vs,v.oneCell'=true:=fun hc v hm=>by
       obtain⟨j,hj⟩:=List.getElem?_of_mem hm;have hlt:j<l.length:=by rw[hv.1];exact(List.getElem?_eq_some_iff.1 hj).1
       have hx:=List.getElem?_eq_getElem hlt;have hr:=hv.2 j _ v hx hj;have hcx:(l[j]).cell=true:=(List.all_eq_true.1 hc) _ (List.getElem_mem hlt);obtain⟨q1,q2,_⟩:=hr.cell hcx;cases v<;>first|rfl|exact absurd rfl (q1 _)|exact absurd rfl (q2 _)
     rcases pn l i ho' with⟨rfl,rfl⟩|⟨k,ex,d,t,t',rfl,rfl,e3,e4,e5⟩
     · have:vs=[]:=hv.inv_nil
       subst this;have e:(H.put b o').get=H.get:=by
         rw[qd]
         funext b'
         by_cases e:b'=b
         · subst e;rw[cr];exact ho.symm
         · rw[ax _ _ e]
       rw[e];exact⟨rfl,by simp,by simp,by simp,R,R.refl⟩
     · obtain⟨ob,q1,q2⟩:=R.ob b _ c ho rfl hb
       cases q2 with|cells _ _ _ _ cs et fr hn hx hf hh=>
       have hl:l.length=vs.length:=hv.1;obtain⟨g1,g2,g3,g4⟩:=ii vs w c (i+(ν.rm b).2) q1;have:=R.turn (o':= .cells k ex d t') hb ho rfl g1 (.cells k ex d t' _ et fr (by rw[dr];exact hn) (by rw[dr];exact hx) (by rw[dr];exact hf) fun j x hj=>by
         rw[uu vs cs (i+(ν.rm b).2) (j+(ν.rm b).2) (.inl (by omega)),show j+(ν.rm b).2-(i+(ν.rm b).2)=j-i by omega]
         have hj':=e5 j x hj;by_cases e:i≤j∧j<i+vs.length
         · rw[if_pos (by rw[hl];exact e)] at hj'
           rw[if_pos (by omega)]
           exact hv.get hj'
         · rw[if_neg (by rw[hl];exact e)] at hj'
           rw[if_neg (by omega)]
           exact hh j x hj') g2 g3 g4
       rw[qd];refine⟨rfl,fun j hj=> ?_,fun j hj=> ?_,hone e4,this.1,this.2⟩
       · simp[World.cell?,q1,show i+(ν.rm b).2+j<cs.size by omega]
       · simp only[World.frozen?,q1]
         obtain⟨f1,f2⟩:=fr;simp only at hf ⊢;simp only[Bool.and_eq_false_iff,decide_eq_false_iff_not];omega
   · cases h
 · cases h
end
