import Derived.Test.YtplmdlobbfcknaaGreatDoorMeZ
namespace Go.Me
open Go Go.RowKit
variable [Gam]
set_option linter.unusedSectionVars false
set_option linter.unusedSimpArgs false
set_option linter.unusedVariables false
section
variable {C:Cfg} {base:Nat} {ν:Nm} {g:Gt} {n:Nat} {w:World}
theorem WR.fresh_st (R:WR C base ν g n w) {w':World} {ρ:Nat×Nat} {o:Ob} {ob:Obj} (hc:w'.heap[w.heap.size]? =some ob) (ho:OR ν ρ o ob) (hold:∀ c',c'<w.heap.size→w'.heap[c']? =w.heap[c']?) (hr:w'.os=w.os∧w'.tape=w.tape∧w'.output=w.output):
   WR C base (ν.add n w.heap.size ρ) (upd g n o) (n+1) w'∧St ν g n w (ν.add n w.heap.size ρ) (upd g n o) (n+1) w':=by
 have hlt:w.heap.size<w'.heap.size:=(Array.getElem?_eq_some_iff.1 hc).1;refine⟨(R.fresh hc ho R.big hlt (fun b _ h=>by have:=(R.lt b _ h).2.2;omega) (fun c' _ h=>hold c' h) (by omega)).1,
   ⟨by omega,fun b hb=>⟨Nm.add_ne _ _ _ (by omega),Nm.rm_ne _ _ _ (by omega)⟩,fun b hb ⟨q,h1,h2⟩=>⟨q,by rwa [a8 _ _ (by omega)] at h1,h2⟩,fun b hb h=>by rw[a8 _ _ (by omega)];exact h,fun b hb _=>a8 _ _ (by omega),fun b hb h=>by rw[a8 _ _ (by omega)];exact h,fun b c hb h=> ?_,by omega,fun c hc _=>hold c hc,hr⟩⟩
 by_cases e:b=n
 · subst e;rw[Nm.add_same] at h;cases h;exact .inl (Nat.le_refl _)
 · rw[Nm.add_ne _ _ _ e] at h;exact absurd (R.lt b c h).1 (by omega)
end
def xRow (n:Nat) (x:Int):List M→Hp→Option (M×Hp)
 | [],H=>some (.sl H.n 0 n (some n),H.push (.cells n 0 (.int .i64 x) .lf))
 |_,_=>none
theorem xRow_ok {C:Cfg} {f:FuncId} {n:Nat} {x:Int} (hent:∀ args w,(callFunc f args).run C.P w= .ok (.enter f args) w)
   (hw:∀ w,Calls C.P f #[] w fun e w'=>∃ (cs:Array Value) (t:TypeId) (fr:Nat×Nat),e= .returned (.slice (some ⟨w.heap.size,0,none⟩) n n)∧w'.heap[w.heap.size]? =some (.cells cs t fr)∧cs.size=n∧(fr.1=fr.2∨n≤fr.1)∧(∀ i,i<n→cs[i]? =some (.int .i64 x))∧(∀ c,c<w.heap.size→w'.heap[c]? =w.heap[c]?)∧w'.os=w.os∧w'.tape=w.tape∧w'.output=w.output):ExtOne C f (xRow n x):=by
 intro args H y H' h base ν w vs R hv;unfold xRow at h;split at h
 · cases h
   rw[hv.inv_nil];refine .inr ⟨hent _ w,(hw w).mono fun e w' ⟨cs,t,fr,he,h1,h2,h3,h4,h5,h6⟩=> ?_⟩
   have ho:OR ν (0,0) (.cells n 0 (.int .i64 x) .lf) (.cells cs t fr):=by
     refine .cells _ _ _ _ _ _ _ (by omega) ⟨fun _=>h2,by simp⟩ (by omega) fun i u hu=> ?_
     obtain⟨g1,g2⟩:=cells_at hu;refine⟨.int .i64 x,h4 i g1,?_⟩;have:u= .int .i64 x:=by simpa[Tr.get] using g2
     rw[this];exact .int _ _
   obtain⟨k1,k2⟩:=R.fresh_st h1 ho h5 h6;refine⟨_,ν.add H.n w.heap.size (0,0),he,.sl0 (Nm.add_same _ _ _ _) (by rw[Nm.rm_same]) (Nat.le_refl _) (fun m hm=>by cases hm;rfl) (fun h=>by cases h),?_,?_⟩
   · rw[dn];exact k1
   · rw[dn];exact k2
 · cases h
def a12 (C:Cfg) (f:FuncId) (it:List M→Hp→Option (M×List (List M))):Prop:=
 (∀ args w,(callFunc f args).run C.P w= .ok (.enter f args) w)∧∀ base ν0 H0 w0 caps lb key items,WR C base ν0 H0.get H0.n w0→VRs ν0 caps lb→it caps H0=some (key,items)→Tells C base ν0 it caps key items.length f lb.toArray w0
def dh (z n m:Nat) (c p:Nat):List (List M):=(List.range ((n+m-1) / m)).map fun i=>[.sl c (p+i*m*z) (min m (n-i*m)) (some (min m (n-i*m)))]
def xf (z:Nat):List M→Hp→Option (M×List (List M))
 | [.ptr b o,.ptr b' o'],H=>match H.rd b o,H.rd b' o' with
  | some s,some (.int .i64 (.ofNat m))=>bif Nat.blt 0 m then(match s with
   | .sl c p n k=>bif Nat.blt (n+m) 4611686018427387904 then some (.tup [s,.int .i64 (.ofNat m)],dh z n m c p) else none
   | .nilS=>bif Nat.blt m 4611686018427387904 then some (.tup [s,.int .i64 (.ofNat m)],[]) else none
   | .slz=>bif Nat.blt m 4611686018427387904 then some (.tup [s,.int .i64 (.ofNat m)],[]) else none
   |_=>none) else none
  |_,_=>none
 |_,_=>none
def aez (P:Program) (f:FuncId) (z:Nat):Prop:=∀ (l B o B' o' n m:Nat) (J:Nat→World→Prop) (Jx:World→Prop) (W:World),0<m→n+m<4611686018427387904→(∀ i X Y,J i X→X.grownBy Y none→J i Y)→(∀ X Y,Jx X→X.grownBy Y none→Jx Y)→
 (∀ i X,i≤(n+m-1) / m→J i X→∃ ad cap,X.cell? ⟨B,o,none⟩=some (.slice ad n cap)∧n≤cap∧X.cell? ⟨B',o',none⟩=some (.int .i64 (m:Int))∧(i*m<n→∃ c p,ad=some ⟨c,p,none⟩∧
  YieldAt Fence.wide 0 P l #[.slice (some ⟨c,p+i*m*z,none⟩) (min m (n-i*m)) (min m (n-i*m))] X fun e Y=>(e= .returned (.bool true)∧J (i+1) Y)∨(e= .returned (.bool false)∧Jx Y)))→
 J 0 W→CallsIn Fence.wide 0 P f #[.func (.yield l) #[] #[],.pointer (some ⟨B,o,none⟩),.pointer (some ⟨B',o',none⟩)] W fun e Y=>(∃ v,e= .returned v)∧(J ((n+m-1) / m) Y∨Jx Y)
theorem adp {i n m:Nat} (hm:0<m):i<(n+m-1) / m↔i*m<n:=by
 rw[show i<(n+m-1) / m↔i+1≤(n+m-1) / m from Iff.rfl,Nat.le_div_iff_mul_le hm,Nat.succ_mul]
 omega
theorem qa {z b o b' o':Nat} {H:Hp} {key:M} {items:List (List M)} (h:xf z [.ptr b o,.ptr b' o'] H=some (key,items)):∃ s m n c p,H.rd b o=some s∧H.rd b' o'=some (.int .i64 (Int.ofNat m))∧0<m∧n+m<4611686018427387904∧key= .tup [s,.int .i64 (Int.ofNat m)]∧items=dh z n m c p∧
   ((∃ k,s= .sl c p n k)∨n=0∧(s= .nilS∨s= .slz)):=by
 have hp0:∀ m c p,0<m→dh z 0 m c p=[]:=fun m c p hm=>by
   unfold dh;rw[Nat.zero_add,Nat.div_eq_of_lt (by omega)]
   rfl
 unfold xf at h;simp only at h;split at h
 · rename_i s m h1 h2
   obtain⟨h3,h⟩:=and1 h;have h3:0<m:=by simpa[Nat.blt_eq] using h3
   split at h
   · rename_i c p n k _
     obtain⟨h4,h⟩:=and1 h;cases h;exact⟨_,m,n,c,p,h1,h2,h3,by simpa[Nat.blt_eq] using h4,rfl,rfl,.inl ⟨k,rfl⟩⟩
   · obtain⟨h4,h⟩:=and1 h
     cases h;exact⟨_,m,0,0,0,h1,h2,h3,by rw[Nat.zero_add];simpa[Nat.blt_eq] using h4,rfl,(hp0 _ _ _ h3).symm,.inr ⟨rfl,.inl rfl⟩⟩
   · obtain⟨h4,h⟩:=and1 h
     cases h;exact⟨_,m,0,0,0,h1,h2,h3,by rw[Nat.zero_add];simpa[Nat.blt_eq] using h4,rfl,(hp0 _ _ _ h3).symm,.inr ⟨rfl,.inr rfl⟩⟩
   · cases h
 · cases h
theorem ash {C:Cfg} {f:FuncId} {z:Nat} (hent:∀ args w,(callFunc f args).run C.P w= .ok (.enter f args) w) (hw:aez C.P f z):a12 C f (xf z):=by
 refine⟨hent,fun base ν0 H0 w0 caps lb key items R hv h=> ?_⟩
 have hc:∃ b o b' o',caps=[.ptr b o,.ptr b' o']:=by
   unfold xf at h;split at h
   · exact⟨_,_,_,_,rfl⟩
   · cases h
 obtain⟨b,o,b',o',rfl⟩:=hc;obtain⟨u,r,rfl,v1,v2⟩:=hv.inv_cons;obtain⟨u',r',rfl,v3,v4⟩:=v2.inv_cons;rw[v4.inv_nil];cases v1 with|ptr _ _ B hB=>
 cases v3 with|ptr _ _ B' hB'=>
 obtain⟨s,m,n,c,p,h1,h2,hm,hlt,rfl,rfl,hs⟩:=qa h;have hlen:(dh z n m c p).length=(n+m-1) / m:=by simp[dh]
 intro l J Jx W hbelow hJ hJx hR h0;rw[hlen] at hR ⊢;refine hw l B (o+(ν0.rm b).2) B' (o'+(ν0.rm b').2) n m J Jx W hm hlt hJ hJx (fun i X hi hJi=> ?_) h0
 obtain⟨ν,H,items,R1,hle,hit,hil,hy⟩:=hR i X hi hJi;obtain⟨s',m',n',c',p',g1,g2,_,_,g5,g6,g7⟩:=qa hit;simp only[M.tup.injEq,List.cons.injEq,M.int.injEq,true_and,and_true] at g5;obtain⟨rfl,g5⟩:=g5;have g5:=Int.ofNat.inj g5;subst g5;obtain⟨v,k1,k2⟩:=R1.rd (fun b o h _=>h) (hle _ _ hB).1 g1
 obtain⟨v',k3,k4⟩:=R1.rd (fun b o h _=>h) (hle _ _ hB').1 g2
 rw[(hle _ _ hB).2] at k1;rw[(hle _ _ hB').2] at k3;cases k4;rcases hs with⟨k,rfl⟩|⟨rfl,hs⟩
 · rcases g7 with⟨k',e⟩|⟨_,e|e⟩
   · cases e
     cases k2 with|sl _ _ _ _ cc cap hcc hcap hk hr=>
     refine⟨_,cap,k1,hcap,k3,fun hin=>⟨cc,p+(ν.rm c).2,rfl,?_⟩⟩
     have hx:items[i]? =some [.sl c (p+i*m*z) (min m (n-i*m)) (some (min m (n-i*m)))]:=by
      rw[g6];simp[dh,(adp hm).2 hin]
     rw[show p+(ν.rm c).2+i*m*z=p+i*m*z+(ν.rm c).2 by omega]
     exact hy _ hx [_] (.cons (.sl c (p+i*m*z) _ _ cc _ hcc (Nat.le_refl _) (fun q hq=>by cases hq;rfl) (fun h=>by cases h)) .nil)
   · cases e
   · cases e
 · rcases hs with rfl|rfl
   · cases k2
     exact⟨_,_,k1,Nat.le_refl _,k3,fun h=>by omega⟩
   · cases k2
     exact⟨_,_,k1,Nat.zero_le _,k3,fun h=>by omega⟩
