import Derived.Test.YtkdiccgfbfbjlaaGreatMeG
import Derived.Laws.BytesString
import Derived.MapKept
namespace Go.Me
open Go
variable [Gam]
set_option linter.unusedSectionVars false
set_option linter.unusedSimpArgs false
set_option linter.unusedVariables false
section
variable {C:Cfg} {base:Nat} {ν:Nm} {g:Gt} {n:Nat} {w:World} {H:Hp} {s:Tr M} {a:Act}
inductive VO (ν:Nm):Option M→Option Value→Prop
 |none:VO ν none none
 |some (x:M) (v:Value) (h:VR ν x v):VO ν (some x) (some v)
theorem afg (S:SR ν s a) {X:Option Operand} {x:Option M} (h:valO s X=some x):VO ν x (X.map a.eval):=by
 rcases valO_vr S h with⟨rfl,e⟩|⟨y,v,rfl,e,hv⟩
 · rw[e];exact .none
 · rw[e];exact .some y v hv
theorem du {x:M} {v:Value} (hx:VR ν x v) {d m k:Nat} (h:bound (some x) d m=some k):k≤m∧∀ (c:BoundsCode) (top:Nat),k≤top→(Instr.sliceBound v top c).run C.P w= .ok k w:=by
 cases x<;>first| (simp[bound] at h;done)|skip
 rename_i ik i;cases hx;unfold bound at h;simp only at h;split at h
 · rename_i q
   obtain⟨h1,h2⟩:=and1 h;cases h2;exact⟨by simpa[Nat.ble_eq] using h1,fun c top ht=>by simp[Instr.sliceBound,asIntOf,ht]⟩
 · cases h
theorem j5 {n top cap:Nat} (ht:top≤cap) (hn:n≤top) {lo hi mx:Option M} {vl vh vm:Option Value} (hl:VO ν lo vl) (hh:VO ν hi vh) (hm:VO ν mx vm) (isS:Bool) {l h:Nat} {m:Option Nat} (e:bnds n top lo hi mx=some (l,h,m)):
  (Instr.sliceBounds isS n cap vl vh vm).run C.P w= .ok (l,h,m.getD cap) w∧l≤h∧(∀ k,m=some k→h≤k∧k≤top)∧(m=none→h≤top):=by
 have low:∀ h,bound lo 0 h=some l→l≤h:=fun h e=>by
  cases hl with
  |none=>simp only[bound,Option.some.injEq] at e;omega
  |some x v hv=>exact(du (C:=C) (w:=w) hv e).1
 cases hm with
 | some x3 v3 h3=>
  cases hh with
  |none=>simp[bnds] at e
  | some x2 v2 h2=>
    simp only[bnds] at e;split at e
    · rename_i m' hm'
      split at e
      · rename_i h' hh'
        split at e
        · rename_i l' hl'
          cases e;obtain⟨q1,q2⟩:=du (C:=C) (w:=w) h3 hm';obtain⟨q3,q4⟩:=du (C:=C) (w:=w) h2 hh';refine⟨?_,low _ hl',fun k hk=>by cases hk;exact⟨q3,q1⟩,fun h=>by cases h⟩
          cases hl with
          | none=>
           simp only[bound,Option.some.injEq] at hl';subst hl';simp[Instr.sliceBounds,q2 _ cap (Nat.le_trans q1 ht),q4 _ _ q3]
          | some x v hv=>
           obtain⟨r1,r2⟩:=du (C:=C) (w:=w) hv hl';simp[Instr.sliceBounds,q2 _ cap (Nat.le_trans q1 ht),q4 _ _ q3,r2 _ _ r1]
        · cases e
      · cases e
    · cases e
 | none=>
  simp only[bnds] at e;split at e
  · rename_i h' hh'
    split at e
    · rename_i l' hl'
      cases e;have hi':h≤top:=by
        cases hh with
        |none=>simp only[bound,Option.some.injEq] at hh';omega
        |some y v hv=>exact(du (C:=C) (w:=w) hv hh').1
      refine⟨?_,low _ hl',fun k hk=>(by cases hk),fun _=>hi'⟩
      cases hh with
      | none=>
        simp only[bound,Option.some.injEq] at hh';subst hh';cases hl with
        | none=>
          simp only[bound,Option.some.injEq] at hl';subst hl';simp[Instr.sliceBounds]
        | some x v hv=>
          obtain⟨r1,r2⟩:=du (C:=C) (w:=w) hv hl';simp[Instr.sliceBounds,r2 _ _ r1]
      | some y v2 hv2=>
        obtain⟨q3,q4⟩:=du (C:=C) (w:=w) hv2 hh';cases hl with
        | none=>
          simp only[bound,Option.some.injEq] at hl';subst hl';simp[Instr.sliceBounds,q4 _ _ (Nat.le_trans q3 ht)]
        | some x v hv=>
          obtain⟨r1,r2⟩:=du (C:=C) (w:=w) hv hl';simp[Instr.sliceBounds,q4 _ _ (Nat.le_trans q3 ht),r2 _ _ r1]
    · cases e
  · cases e
theorem wy {b o z l h m c:Nat} (hb:ν b=some c) (h1:l≤h) (h2:h≤m):VR ν (cutM b o z l h m) (.slice (some (if m=l then⟨c,o+(ν.rm b).2,none⟩ else(⟨c,o+(ν.rm b).2,none⟩:Addr).add (l*z))) (h-l) (m-l)):=by
 unfold cutM;rw[b7];by_cases e:m=l
 · rw[if_pos e,show(m==l)=true by simpa using e];exact .sl b o _ _ c _ hb (by omega) (fun k hk=>by cases hk;rfl) (fun h=>by cases h)
 · rw[if_neg e,show(m==l)=false by simpa using e,Nat.add_right_comm];exact .sl b (o+l*z) _ _ c _ hb (by omega) (fun k hk=>by cases hk;rfl) (fun h=>by cases h)
theorem avl {t:TypeId} {x r:M} {u:Value} {lo hi mx:Option M} {vl vh vm:Option Value} (hx:VR ν x u) (hl:VO ν lo vl) (hh:VO ν hi vh) (hm:VO ν mx vm) (h:sliceM C t x lo hi mx=some r):
   ∃ v,(Instr.sliceAt t u vl vh vm).run C.P w= .ok v w∧VR ν r v:=by
 unfold sliceM at h;split at h
 · rename_i b o n c
   cases hx with|sl _ _ _ _ d cap hb hc hk hr=>
   split at h
   · rename_i e hu
     split at h
     · rename_i z hz
       have htop:c.getD n≤cap∧n≤c.getD n:=by
         cases c with
         |none=>exact⟨hc,Nat.le_refl _⟩
         |some k=>have:=hk k rfl;subst this;exact⟨Nat.le_refl _,hc⟩
       split at h
       · rename_i l q m hb'
         cases h;obtain⟨p1,p2,p3,p4⟩:=j5 (C:=C) (w:=w) htop.1 htop.2 hl hh hm true hb';obtain⟨p5,p6⟩:=p3 m rfl;refine⟨_,?_,wy (z:=z) hb p2 p5⟩;simp only[Instr.sliceAt,Instr.slice,Sem.run_bind,ab hu,Result.andThen_ok,p1,aw hz,Sem.run_pure]
         congr 2
         by_cases e:m=l<;>simp[e]
       · rename_i l q hb'
         obtain⟨p1,p2,p3,p4⟩:=j5 (C:=C) (w:=w) htop.1 htop.2 hl hh hm true hb';have p4:=p4 rfl;have run:(Instr.sliceAt t (.slice (some ⟨d,o+(ν.rm b).2,none⟩) n cap) vl vh vm).run C.P w= .ok (.slice (some (if cap=l then⟨d,o+(ν.rm b).2,none⟩ else(⟨d,o+(ν.rm b).2,none⟩:Addr).add (l*z))) (q-l) (cap-l)) w:=by
          simp only[Instr.sliceAt,Instr.slice,Sem.run_bind,ab hu,Result.andThen_ok,p1,aw hz,Sem.run_pure]
          congr 2
          by_cases e:cap=l<;>simp[e]
         refine⟨_,run,?_⟩;cases c with
         | some k=>
          cases h;have:=hk k rfl;subst this;exact wy (z:=z) hb p2 p4
         | none=>
          simp only[Option.getD_none] at h p4;cases e0:l==0
          · rw[e0] at h
            simp only[cond_false] at h;have hl0:l≠0:=by simpa using e0
            cases e1:Nat.blt l n
            · rw[e1] at h
              cases h;have:¬ l<n:=by rw[← Nat.blt_eq,e1];simp
              rw[show q-l=0 by omega]
              exact .slz _ _
            · rw[e1] at h
              simp only[cond_true] at h;have:l<n:=by rw[← Nat.blt_eq,e1]
              cases e2:z==0
              · rw[e2] at h
                cases h;have hz0:z≠0:=by simpa using e2
                rw[if_neg (by omega),b7,Nat.add_right_comm]
                have hlz:l*z≠0:=Nat.mul_ne_zero hl0 hz0;exact .sl b (o+l*z) _ _ d _ hb (by omega) (fun k hk=>by cases hk) (fun _ h=>by omega)
              · rw[e2] at h;cases h
          · rw[e0] at h
            cases h;have hl0:l=0:=by simpa using e0
            subst hl0;rw[Nat.zero_mul,b7];simp only[Nat.add_zero,ite_self,Nat.sub_zero];exact .sl _ _ _ _ d _ hb (by omega) (fun k hk=>by cases hk) hr
       · cases h
     · cases h
   · cases h
 · cases hx with|slz ad cap=>
   split at h
   · rename_i e hu
     split at h
     · rename_i z y hz hb'
       cases h;obtain⟨l,q,m⟩:=y;obtain⟨p1,p2,p3,p4⟩:=j5 (C:=C) (w:=w) (Nat.zero_le cap) (Nat.le_refl 0) hl hh hm true hb';have hq:q=0:=by
         cases m with
         |none=>have:=p4 rfl;omega
         |some k=>have:=p3 k rfl;omega
       have hl0:l=0:=by omega
       subst hq;subst hl0;refine⟨_,?_,VR.slz ad (m.getD cap-0)⟩;simp only[Instr.sliceAt,Instr.slice,Sem.run_bind,ab hu,Result.andThen_ok,p1,aw hz,Sem.run_pure,Nat.zero_mul,Option.map_some]
       congr 2
       simp[Addr.add]
     · cases h
   · cases h
 · cases hx with|nilS=>
   split at h
   · rename_i e hu
     split at h
     · rename_i z y hz hb'
       cases h;obtain⟨l,q,m⟩:=y;obtain⟨p1,p2,p3,p4⟩:=j5 (C:=C) (w:=w) (Nat.le_refl 0) (Nat.le_refl 0) hl hh hm true hb';have hq:q=0:=by
         cases m with
         |none=>have:=p4 rfl;omega
         |some k=>have:=p3 k rfl;omega
       have hl0:l=0:=by omega
       have hm0:m.getD 0=0:=by
         cases m with
         |none=>rfl
         |some k=>have:=p3 k rfl;simp;omega
       subst hq;subst hl0;refine⟨.slice none 0 0,?_,VR.nilS⟩;simp only[Instr.sliceAt,Instr.slice,Sem.run_bind,ab hu,Result.andThen_ok,p1,aw hz,Sem.run_pure,Nat.zero_mul,Option.map_none];rw[hm0];simp
     · cases h
   · cases h
 · rename_i b o
   cases hx with|ptr _ _ d hb=>
   split at h
   · rename_i ar hu
     split at h
     · rename_i k e hu2
       split at h
       · rename_i z l q m hz hb'
         cases h;obtain⟨p1,p2,p3,p4⟩:=j5 (C:=C) (w:=w) (Nat.le_refl k) (Nat.le_refl k) hl hh hm false hb';have hqm:q≤m.getD k:=by
          cases m with
          |none=>exact p4 rfl
          |some k'=>exact(p3 k' rfl).1
         refine⟨_,?_,wy (z:=z) hb p2 hqm⟩;simp only[Instr.sliceAt,Instr.slice,Sem.run_bind,ab hu,Result.andThen_ok,asAddr,Sem.run_pure,ab hu2,p1,aw hz]
       · cases h
     · cases h
   · rename_i k e hu
     split at h
     · rename_i z l q m hz hb'
       cases h;obtain⟨p1,p2,p3,p4⟩:=j5 (C:=C) (w:=w) (Nat.le_refl k) (Nat.le_refl k) hl hh hm false hb';have hqm:q≤m.getD k:=by
         cases m with
         |none=>exact p4 rfl
         |some k'=>exact(p3 k' rfl).1
       refine⟨_,?_,wy (z:=z) hb p2 hqm⟩;simp only[Instr.sliceAt,Instr.sureAddr,Sem.run_bind,ab hu,Result.andThen_ok,Sem.run_pure,p1,aw hz]
     · cases h
   · cases h
 · cases h
end
end Go.Me
namespace Go.Me
open Go
variable [Gam]
set_option linter.unusedSectionVars false
set_option linter.unusedSimpArgs false
set_option linter.unusedVariables false
section
variable {C:Cfg} {base:Nat} {ν:Nm} {g:Gt} {n:Nat} {w:World} {H:Hp} {s:Tr M} {a:Act}
theorem ng:∀ {l:List M} {b:List UInt8},bytesM l=some b→∃ ns:List Int,l=ns.map (M.int .u8)∧b=ns.map fun n=>UInt8.ofNat n.toNat
 | [],b,h=>by simp only[bytesM,Option.some.injEq] at h;subst h;exact⟨[],rfl,rfl⟩
 | x::l,b,h=>by
  cases x<;>first| (simp[bytesM] at h;done)|skip
  rename_i k i;cases k<;>first| (simp[bytesM] at h;done)|skip
  unfold bytesM at h;split at h
  · rename_i r hr
    cases h;obtain⟨ns,rfl,rfl⟩:=ng hr;exact⟨i::ns,rfl,rfl⟩
  · cases h
theorem a3f:∀ {ns:List Int} {vs:List Value},VRs ν (ns.map (M.int .u8)) vs→vs=ns.map (Value.int .u8)
 | [],vs,h=>h.inv_nil
 | n::ns,vs,h=>by
  obtain⟨v,r,rfl,h1,h2⟩:=h.inv_cons;cases h1;rw[a3f h2];rfl
theorem tu:∀ (ns:List Int) (r:ByteArray),ns.foldl (fun r n=>r.push (UInt8.ofNat n.toNat)) r=⟨r.data++(ns.map fun n=>UInt8.ofNat n.toNat).toArray⟩
 | [],r=>by simp
 | n::ns,r=>by
  rw[List.foldl_cons,tu ns];simp[ByteArray.push]
theorem a3r (R:WR C base ν g n w) {b c:Nat} {o:Ob} (hb:ν b=some c) (ho:g b=some o) (hl:o.live=true) {cs:Array Value} {e:TypeId} {fr:Nat×Nat} (hc:w.heap[c]? =some (.cells cs e fr)):
   WR C base ν g n (w.freeze ⟨c,cs.size,none⟩ 1)∧St ν g n w ν g n (w.freeze ⟨c,cs.size,none⟩ 1):=by
 have hheap:∀ c',(w.freeze ⟨c,cs.size,none⟩ 1).heap[c']? =if c=c' then some (.cells cs e (if fr.1==fr.2 then(cs.size,cs.size+1) else(min fr.1 cs.size,max fr.2 (cs.size+1)))) else w.heap[c']? :=fun c'=>by
   unfold World.freeze;rw[if_neg (by decide)]
   simp only[Array.getElem?_modify];split
   · rename_i h;subst h;rw[hc];rfl
   · rfl
 have hsize:(w.freeze ⟨c,cs.size,none⟩ 1).heap.size=w.heap.size:=by unfold World.freeze;rw[if_neg (by decide)];simp
 refine⟨⟨fun b c h=>by rw[hsize];exact R.lt b c h,fun b' o' c' h1 h2 h3=> ?_,R.inj,fun k xs hk=> ?_,fun k xs hk=> ?_,by rw[hsize];exact R.big,R.dom⟩,
   ⟨Nat.le_refl _,fun _ _=>⟨rfl,rfl⟩,fun _ _ h=>h,fun _ _ h=>h,fun _ _ _=>rfl,fun _ _ h=>h,fun b c h1 h2=>absurd (R.lt b c h2).1 (by omega),by rw[hsize];exact Nat.le_refl _,fun c' _ h=> ?_,by unfold World.freeze;rw[if_neg (by decide)];exact⟨rfl,rfl,rfl⟩⟩⟩
 · obtain⟨ob,h4,h5⟩:=R.ob b' o' c' h1 h2 h3
   rw[hheap];by_cases e1:c=c'
   · subst e1
     rw[if_pos rfl];rw[hc] at h4;cases h4;refine⟨_,rfl,?_⟩;cases h5 with
     | cells n ex d t _ _ _ hn hx hf h=>
      refine .cells n ex d t cs e _ hn hx ?_ h;by_cases e2:fr.1=fr.2
      · rw[if_pos (by simpa using e2)];exact .inr (Nat.le_refl _)
      · rw[if_neg (by simpa using e2)]
        have:=hf.resolve_left e2;right;simp only;omega
   · rw[if_neg e1];exact⟨ob,h4,h5⟩
 · obtain⟨h1,vs,e',fr',h2,h3⟩:=R.gl k xs hk
   refine⟨h1,vs,e',fr',?_,h3⟩;rw[hheap,if_neg]
   · exact h2
   · have:=(R.lt b c hb).2.1;omega
 · obtain⟨h1,vs,e',h2,hcv,h3⟩:=R.vg k xs hk
   refine⟨h1,vs,e',?_,hcv,h3⟩;rw[hheap,if_neg]
   · exact h2
   · have:=(R.lt b c hb).2.1;omega
 · rw[hheap,if_neg]
   intro e1;exact h b ⟨o,ho,hl⟩ (by rw[hb,e1])
def Same (C:Cfg) (base:Nat) (ν:Nm) (g:Gt) (n:Nat) (w:World) (q:World→Value→Prop) (x:M):Prop:=
 ∃ v w',q w' v∧VR ν x v∧WR C base ν g n w'∧St ν g n w ν g n w'
theorem ayb (R:WR C base ν g n w) (hs:∀ b o,H.get b=some o→o.live=true→g b=some o) {src dst:TypeId} {x r:M} {u:Value} (hx:VR ν x u) (h:convM C H src dst x=some r):
   Same C base ν g n w (fun w' v=>(convert src dst u).run C.P w= .ok v w') r:=by
 have same:∀ {v},(convert src dst u).run C.P w= .ok v w→VR ν r v→Same C base ν g n w (fun w' v=>(convert src dst u).run C.P w= .ok v w') r:=fun {v} h1 h2=>⟨v,w,h1,h2,R,R.refl⟩
 unfold convM at h;split at h
 · rename_i b o m k
   cases hx with|sl _ _ _ _ c cap hb hc hk hr=>
   split at h
   · rename_i e hu1 hu2
     split at h
     · rename_i hu3
       split at h
       · rename_i l hl
         split at h
         · rename_i by' hby
           cases h;obtain⟨vs,h1,h2,h3⟩:=R.rds hs hb m o hl;obtain⟨ns,rfl,rfl⟩:=ng hby;have e1:=a3f h2;subst e1;have hr:=je (P:=C.P) h3;rw[h1] at hr;have:=run_bytesToString w ⟨c,o+(ν.rm b).2,none⟩ m cap ns hr;rw[tu] at this;refine same (v:= .string ⟨(ns.map fun n=>UInt8.ofNat n.toNat).toArray⟩) ?_ (.str _)
           rw[run_convert_bytes_string w src dst e _ _ _ hu1 hu3 hu2,this];simp
         · cases h
       · cases h
     · cases h
   · rename_i e0 e hu1 hu2
     obtain⟨p1,p2,p3⟩:=and2 h;split at p3
     · rename_i hu3
       cases p3;split at p2
       · rename_i k' ex d t ho
         obtain⟨ob,q1,q2⟩:=R.ob b _ c (hs b _ ho rfl) rfl hb;cases q2 with|cells _ _ _ _ cs et fr hn hxx hf hh=>
         have e1:src=dst:=by simpa using p1
         subst e1;rw[hu1] at hu2;cases hu2;obtain⟨g1,g2⟩:=a3r R hb (hs b _ ho rfl) rfl q1;refine⟨_,_,?_,.sl b o m k c cap hb hc hk hr,g1,g2⟩;have hsh:w.shape? c=some (et,cs.size):=by simp[World.shape?,q1]
         simp only[convert,Sem.run_bind,ab hu1,ab hu3,Result.andThen_ok,beq_self_eq_true,markStringish];simp[hsh]
       · cases p2
     · cases p3
   · cases h
 · cases hx with|slz ad cap=>
   split at h
   · rename_i e hu1 hu2
     split at h
     · rename_i hu3
       cases h;refine same (v:= .string ⟨#[]⟩) ?_ (.str []);have:=run_bytesToString (P:=C.P) w ad 0 cap [] (by simp[loadCells,loadCellsFrom])
       rw[run_convert_bytes_string w src dst e _ _ _ hu1 hu3 hu2,this];rfl
     · cases h
   · cases h
 · split at h
   · rename_i v hv
     rw[hx.toV hv];split at h
     · rename_i z hz
       have:=pureRun_run w hz;rw[hx.toV hv] at same;exact same this (gh h)
     · cases h
   · cases h
end
