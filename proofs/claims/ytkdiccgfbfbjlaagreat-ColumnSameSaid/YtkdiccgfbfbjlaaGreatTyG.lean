import Derived.Test.YtkdiccgfbfbjlaaGreatTyF
import Derived.Test.YtkdiccgfbfbjlaaGreatFlD
set_option linter.unusedSectionVars false
namespace Go.Proofs.YtkdiccgfbfbjlaaGreat
open Go Go.Ev
variable [Sh]
set_option maxHeartbeats 4000000
theorem VZ {t:Ty} {deep:Nat} {n:Int} (h:(BP deep n t).2=0):B1 t=0∧∀ k∈t.kids,∃ n',(BP (deep+1) n' k).2=0:=by
 have key:∀ (l:List Ty) (n:Int),(Cq (deep+1) n l).2=0→∀ k∈l,∃ n',(BP (deep+1) n' k).2=0:=by
   intro l
   induction l with
   |nil=>intro n _ k hk;cases hk
   | cons y r ih=>
    intro n hz k hk;rw[ft] at hz;by_cases hx:((BP (deep+1) n y).2 !=0)=true
    · rw[if_pos hx] at hz
      rw[hz] at hx;simp at hx
    · rw[if_neg hx] at hz
      rcases ach.1 hk with rfl|hk
      · exact⟨n,by simpa using hx⟩
      · exact ih _ hz k hk
 rw[ph] at h;by_cases h1:(decide ((deep:Int)>16)||decide (n≥100))=true
 · rw[if_pos h1] at h;simp at h
 rw[if_neg h1] at h;by_cases h2:(B1 t !=0)=true
 · rw[if_pos h2] at h
   simp only at h;rw[h] at h2;simp at h2
 rw[if_neg h2] at h;exact⟨by simpa using h2,key _ _ h⟩
theorem wh {par:Nat} {d:Int} {x:Ty×List Nat×Int×Int}:∀ (ks:List Ty) (i:Nat),x∈bm i par d ks→∃ k∈ks,∃ i',i'+k.size≤i+Ty.Aq ks∧x∈Bq i' par d k
 | [],i,h=>by rw[bm] at h;cases h
 | k::r,i,h=>by
  rw[bm] at h;rcases acz.1 h with h|h
  · exact⟨k,by simp,i,by rw[Ty.Aq];omega,h⟩
  · obtain⟨k',hk,i',hi,hx⟩:=wh r _ h
    exact⟨k',by simp[hk],i',by rw[Ty.Aq];omega,hx⟩
theorem a9n:∀ (l:List Ty) (i k:Nat),k∈Ba i l→k≤i+Ty.Aq l
 | [],i,k,h=>by cases h
 | y::l,i,k,h=>by
  rw[Ba] at h;rcases ach.1 h with rfl|h
  · omega
  · have:=a9n l _ k h
    rw[Ty.Aq];omega
theorem ak6:∀ (m:Nat) (t:Ty) (deep:Nat) (n:Int) (i:Nat) (p q:Int),t.size≤m→(BP deep n t).2=0→∀ x∈Bq i p q t,B1 x.1=0∧(∀ k∈x.2.1,k≤i+t.size)∧x.2.1.length≤t.size∧x.1.size≤t.size
 |0,t,_,_,_,_,_,h,_=>by have:=t.size_pos;omega
 | m+1,t,deep,n,i,p,q,h,hc=>by
  intro x hx;obtain⟨h1,h2⟩:=VZ hc;have hs:=t.size_eq;rw[jk] at hx;rcases ach.1 hx with rfl|hx
  · refine⟨h1,fun k hk=> ?_,?_,ab5 _⟩
    · have:=a9n _ _ k hk;omega
    · show(Ba (i+1) t.kids).length≤_
      rw[ss];have:=nj t.kids;omega
  · obtain⟨k,hk,i',hi,hx⟩:=wh _ _ hx
    obtain⟨n',hn⟩:=h2 k hk;have hlt:=Ty.A8 hk;obtain⟨a,b,c,d⟩:=ak6 m k (deep+1) n' i' _ _ abu hn x hx;exact⟨a,fun z hz=>by have:=b z hz;omega,by omega,by omega⟩
theorem akv:(∀ (t:Ty) (i:Nat) (p q:Int),Cp i p q t=(Bq i p q t).map fun n=>CO n.1 n.2.1 n.2.2.1 n.2.2.2)
 | .mk k ns ks l pr s,i,p,q=>by rw[GM,jk,List.map_cons,show(Ty.mk k ns ks l pr s).kids=ks from rfl,flatTs_map ks]
where flatTs_map:∀ (ks:List Ty) (i par:Nat) (q:Int),gx i par q ks=(bm i par q ks).map fun n=>CO n.1 n.2.1 n.2.2.1 n.2.2.2
 | [],i,par,q=>by rw[GL,bm];rfl
 |k::r,i,par,q=>by rw[Fo,bm,List.map_append,akv k,flatTs_map r]
theorem aG:∀ (m:Nat) (t:Ty) (deep:Nat),EL deep t<1000→H5 m t
 |0,_,_,_=>trivial
 | m+1,t,deep,h=>by
  have key:∀ (r:List Ty) (n:Int),Dp (deep+1) n r<1000→∀ k∈r,EL (deep+1) k<1000∨n<0:=by
    intro r
    induction r with
    |nil=>intro n _ k hk;cases hk
    | cons y r ih=>
      intro n h k hk;rw[lp] at h;have hb:=zn _ y (deep+1) (ab5 _);split at h
      · omega
      · rename_i hc
        simp only[ab4] at hc;rcases ach.1 hk with rfl|hk
        · by_cases hn:n<0
          · exact .inr hn
          · left
            by_cases hl:EL (deep+1) k<1000
            · exact hl
            · exfalso
              have:∀ (r:List Ty) (n:Int),1000≤n→¬ Dp (deep+1) n r<1000:=by
               intro r
               induction r with
               |nil=>intro n hn h;rw[td] at h;omega
               | cons y r ih2=>
                intro n hn h;rw[lp] at h;have hb:=zn _ y (deep+1) (ab5 _);split at h
                · omega
                · exact ih2 _ abu h
              exact this r _ abu h
        · rcases ih _ h k hk with h1|h1
          · exact .inl h1
          · right;omega
  rw[aqw] at h;split at h
  · omega
  · rename_i hc
    simp only[acu,ab4,not_or] at hc;split at h
    · omega
    · refine⟨by omega,by omega,fun k hk=>aG m k (deep+1) ?_⟩
      rcases key t.kids 1 h k hk with h1|h1
      · exact h1
      · omega
theorem wo:∀ (m:Nat) (t:Ty),H5 m t→u6 m t
 |0,_,_=>trivial
 |m+1,t,⟨a,b,c⟩=>⟨by omega,by omega,fun k hk=>wo m k (c k hk)⟩
theorem bmc {t:Ty} (h:FJ t=true):H5 t.size t∧u6 t.size t:=by
 have h1:EL 1 t≤150:=by simpa[FJ] using h
 have:=aG t.size t 1 abu;exact⟨this,wo _ _ this⟩
