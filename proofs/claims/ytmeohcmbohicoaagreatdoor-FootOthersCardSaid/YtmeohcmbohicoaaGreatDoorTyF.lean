import Derived.Test.YtmeohcmbohicoaaGreatDoorTyE
namespace Go.Proofs.YtmeohcmbohicoaaGreatDoor
open Go Go.Ev
set_option maxHeartbeats 4000000
theorem ava:∀ (m:Nat) (t:Ty) (deep:Nat) (n:Int),t.size≤m→(chkT deep n t).2=0→(chkT deep n t).1=n+t.size
 |0,t,_,_,h,_=>by have:=t.size_pos;omega
 | m+1,t,deep,n,h,hc=>by
  have key:∀ (l:List Ty) (n:Int),(∀ k∈l,k.size≤m)→(chkTs (deep+1) n l).2=0→(chkTs (deep+1) n l).1=n+Ty.sizes l:=by
    intro l
    induction l with
    |nil=>intro n _ _;rw[chkTs_nil,Ty.sizes];simp
    | cons k r ih=>
     intro n hk hz;rw[chkTs_cons] at hz ⊢;by_cases hx:((chkT (deep+1) n k).2 !=0)=true
     · rw[if_pos hx] at hz
       rw[hz] at hx;simp at hx
     · rw[if_neg hx] at hz ⊢
       have h0:(chkT (deep+1) n k).2=0:=by simpa using hx
       have h1:=ava m k (deep+1) n (hk k vq) h0;have h2:=ih _ (fun x hx=>hk x (by simp[hx])) hz
       rw[h2,h1,Ty.sizes];omega
  rw[chkT_eq] at hc ⊢;by_cases h1:(decide ((deep:Int)>16)||decide (n≥100))=true
  · rw[if_pos h1] at hc;simp at hc
  rw[if_neg h1] at hc ⊢;by_cases h2:(ownM t !=0)=true
  · rw[if_pos h2] at hc
    simp only at hc;rw[hc] at h2;simp at h2
  rw[if_neg h2] at hc ⊢;rw[key t.kids (n+1) (fun k hk=>by have:=Ty.size_kid hk;omega) hc,t.size_eq];omega
theorem fp {t:Ty} (h:(chkT 1 0 t).2=0):t.size≤100:=by
 have h1:=ava _ t 1 0 (wa _) h;have h2:=(chkT_le _ t 1 0 (wa _) vn).2;omega
theorem gq (t:Ty) (hs:fewK t.size t) (h:(chkT 1 0 t).2=0):evL cfg n_bq 0 [.d t.d] []=some (.d (.sl (flatT 0 (-1) 1 t)),[]):=by
 have hz:=fp h;have h1:=ig t hs;have h2:=types_flatten_ans t.size t [] (-1) 1 (wa _) hs (by unfold inI;omega) vn (by simp;omega)
 rw[h] at h1;rw[af,List.nil_append,List.length_nil] at h2;rw[o_bq];have hne:flatT 0 (-1) 1 t≠[]:=by rw[flatT_eq];simp
 generalize flatT 0 (-1) 1 t=q at *;simp(disch:=first|exact vm|fail) only[go_sem,X_bq,c_bq,h1,h2]
