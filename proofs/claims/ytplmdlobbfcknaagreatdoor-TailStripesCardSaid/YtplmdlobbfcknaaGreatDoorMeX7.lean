import Derived.Test.YtplmdlobbfcknaaGreatDoorMeX1
namespace Go.Me
open Go Go.RowKit
variable [Gam]
set_option linter.unusedSectionVars false
set_option linter.unusedSimpArgs false
set_option linter.unusedVariables false
def backs (H:Hp) (c p z:Nat):Nat→Option (List (List M))
 |0=>some []
 | n+1=>match H.rds c (p+n*z) z,backs H c p z n with
  |some l,some r=>some ([.int .i64 (Int.ofNat n),.agg l]::r)
  |_,_=>none
theorem aeu {H:Hp} {c p z:Nat}:∀ {n:Nat} {items:List (List M)},backs H c p z n=some items→items.length=n
 |0,items,h=>by cases h;rfl
 | n+1,items,h=>by
  unfold backs at h;split at h
  · rename_i l r h1 h2
    cases h;simp[aeu h2]
  · cases h
theorem aev {H:Hp} {c p z:Nat}:∀ {n:Nat} {items:List (List M)},backs H c p z n=some items→∀ (i:Nat),i<n→∃ l,H.rds c (p+(n-1-i)*z) z=some l∧items[i]? =some [.int .i64 (Int.ofNat (n-1-i)),.agg l]
 |0,items,h,i,hi=>by omega
 | n+1,items,h,i,hi=>by
  unfold backs at h;split at h
  · rename_i l r h1 h2
    cases h
    match i,hi with
    |0,hi=>exact⟨l,by simpa using h1,by simp⟩
    | i+1,hi=>
     obtain⟨l',g1,g2⟩:=aev h2 i (by omega)
     refine⟨l',?_,?_⟩
     · rw[show n+1-1-(i+1)=n-1-i by omega];exact g1
     · rw[List.getElem?_cons_succ,show n+1-1-(i+1)=n-1-i by omega];exact g2
  · cases h
def xBack (z:Nat):List M→Hp→Option (M×List (List M))
 | [.ptr b o],H=>match H.rd b o with
  | some (.sl c p n k)=>bif Nat.blt n 4611686018427387904 then(match backs H c p z n with
   |some l=>some (.sl c p n k,l)
   |none=>none) else none
  |some .nilS=>some (.nilS,[])
  |some .slz=>some (.slz,[])
  |_=>none
 |_,_=>none
def aqc (P:Program) (f:FuncId) (z:Nat):Prop:=∀ (l B o n:Nat) (J:Nat→World→Prop) (Jx:World→Prop) (W:World),n<4611686018427387904→(∀ i X Y,J i X→X.grownBy Y none→J i Y)→(∀ X Y,Jx X→X.grownBy Y none→Jx Y)→
 (∀ i X,i≤n→J i X→∃ ad cap,X.cell? ⟨B,o,none⟩=some (.slice ad n cap)∧n≤cap∧(i<n→∃ c p,ad=some ⟨c,p,none⟩∧∃ vs:List Value,vs.length=z∧(∀ (j:Nat) v,vs[j]? =some v→X.cell? ⟨c,p+(n-1-i)*z+j,none⟩=some v)∧
  YieldAt Fence.wide 0 P l #[.int .i64 ((n-1-i:Nat):Int),.agg vs.toArray] X fun e Y=>(e= .returned (.bool true)∧J (i+1) Y)∨(e= .returned (.bool false)∧Jx Y)))→
 J 0 W→CallsIn Fence.wide 0 P f #[.func (.yield l) #[] #[],.pointer (some ⟨B,o,none⟩)] W fun e Y=>(∃ v,e= .returned v)∧(J n Y∨Jx Y)
theorem s7 {z b o:Nat} {H:Hp} {key:M} {items:List (List M)} (h:xBack z [.ptr b o] H=some (key,items)):∃ n,H.rd b o=some key∧n<4611686018427387904∧items.length=n∧
   ((∃ c p k,key= .sl c p n k∧backs H c p z n=some items)∨n=0∧(key= .nilS∨key= .slz)):=by
 unfold xBack at h;simp only at h;split at h
 · rename_i c p n k h1
   obtain⟨h2,h⟩:=and1 h;split at h
   · rename_i l hl
     cases h;exact⟨n,h1,by simpa[Nat.blt_eq] using h2,aeu hl,.inl ⟨c,p,k,rfl,hl⟩⟩
   · cases h
 · rename_i h1
   cases h;exact⟨0,h1,by omega,rfl,.inr ⟨rfl,.inl rfl⟩⟩
 · rename_i h1
   cases h;exact⟨0,h1,by omega,rfl,.inr ⟨rfl,.inr rfl⟩⟩
 · cases h
theorem xBack_ok {C:Cfg} {f:FuncId} {z:Nat} (hent:∀ args w,(callFunc f args).run C.P w= .ok (.enter f args) w) (hw:aqc C.P f z):a12 C f (xBack z):=by
 refine⟨hent,fun base ν0 H0 w0 caps lb key items R hv h=> ?_⟩
 have hc:∃ b o,caps=[.ptr b o]:=by
   unfold xBack at h;split at h
   · exact⟨_,_,rfl⟩
   · cases h
 obtain⟨b,o,rfl⟩:=hc;obtain⟨u,r,rfl,v1,v2⟩:=hv.inv_cons;rw[v2.inv_nil];cases v1 with|ptr _ _ B hB=>
 obtain⟨n,h1,hlt,hlen,hs⟩:=s7 h;intro l J Jx W hbelow hJ hJx hR h0;rw[hlen] at hR ⊢;refine hw l B (o+(ν0.rm b).2) n J Jx W hlt hJ hJx (fun i X hi hJi=> ?_) h0
 obtain⟨ν,H,items',R1,hle,hit,hil,hy⟩:=hR i X hi hJi;obtain⟨n',g1,_,g3,g4⟩:=s7 hit;obtain rfl:n'=n:=g3.symm.trans hil;obtain⟨v,k1,k2⟩:=R1.rd (fun b o h _=>h) (hle _ _ hB).1 g1
 rw[(hle _ _ hB).2] at k1;rcases g4 with⟨c,p,k,rfl,g5⟩|⟨rfl,rfl|rfl⟩
 · cases k2 with|sl _ _ _ _ cc cap hcc hcap hk hr=>
   refine⟨_,cap,k1,hcap,fun hin=>⟨cc,p+(ν.rm c).2,rfl,?_⟩⟩
   obtain⟨l',g6,g7⟩:=aev g5 i hin;obtain⟨vs,q1,q2,q3⟩:=R1.rds (fun b o h _=>h) hcc z _ g6
   refine⟨vs,q1,fun j v hv=> ?_,hy _ g7 [_,_] (.cons (.int _ _) (.cons (VR.agg' q2) .nil))⟩
   rw[show p+(ν.rm c).2+(n'-1-i)*z+j=p+(n'-1-i)*z+(ν.rm c).2+j by omega]
   exact q3 j v hv
 · cases k2
   exact⟨_,_,k1,Nat.le_refl _,fun h=>by omega⟩
 · cases k2
   exact⟨_,_,k1,Nat.zero_le _,fun h=>by omega⟩
