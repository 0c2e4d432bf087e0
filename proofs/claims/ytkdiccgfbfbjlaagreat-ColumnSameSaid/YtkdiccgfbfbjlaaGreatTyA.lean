import Derived.Test.YtkdiccgfbfbjlaaGreatCode
import Derived.Test.YtkdiccgfbfbjlaaGreatL10
import Derived.Test.YtkdiccgfbfbjlaaGreatVaE
set_option linter.unusedSectionVars false
namespace Go.Proofs.YtkdiccgfbfbjlaaGreat
open Go Go.Ev
variable [Sh]
def Hj (z:Nat) (acc:List D):V:=if acc.isEmpty then .d .AL else .own false z acc
theorem li (z:Nat):Hj z []= .d .AL:=rfl
theorem my (z:Nat) (d:D) (r:List D):Hj z (d::r)= .own false z (d::r):=rfl
theorem blc (z:Nat) (r:List D) (d:D):Hj z (r++[d])= .own false z (r++[d]):=by cases r<;>rfl
theorem sx (z:Nat) (l:List D):(Hj z l).home 0=Hj z l:=by cases l<;>rfl
def Rv (k:Nat):D:= .int .i64 (k:Int)
theorem len8 (a b c d e f g h:D):[a,b,c,d,e,f,g,h].length=8:=rfl
theorem tk8 (a b c d e f g h:D):List.take 8 [a,b,c,d,e,f,g,h]=[a,b,c,d,e,f,g,h]:=rfl
end Go.Proofs.YtkdiccgfbfbjlaaGreat
namespace Go.Proofs.YtkdiccgfbfbjlaaGreat
open Go Go.Ev
variable [Sh]
set_option maxHeartbeats 2000000
theorem aqw (deep:Nat) (t:Ty):EL deep t=if decide ((deep:Int)>20)||decide ((t.kids.length:Int)>300)||decide ((t.names.length:Int)>300) then 1000 else if jh t.names then 1000 else Dp (deep+1) 1 t.kids:=by
 cases t with
 |mk k ns ks l p s=>rw[EL];rfl
theorem lp (deep:Nat) (n:Int) (k:Ty) (r:List Ty):Dp deep n (k::r)=if decide (n+EL deep k>1000) then 1000 else Dp deep (n+EL deep k) r:=by rw[Dp]
theorem td (deep:Nat) (n:Int):Dp deep n []=n:=by rw[Dp]
theorem zn:∀ (m:Nat) (t:Ty) (deep:Nat),t.size≤m→1≤EL deep t∧EL deep t≤1000
 |0,t,deep,h=>by have:=t.size_pos;omega
 | m+1,t,deep,h=>by
  rw[aqw];split
  · omega
  · split
    · omega
    · have key:∀ (r:List Ty) (n:Int),(∀ k∈r,k.size≤m)→1≤n→n≤1000→1≤Dp (deep+1) n r∧Dp (deep+1) n r≤1000:=by
       intro r
       induction r with
       |nil=>intro n _ h1 h2;rw[td];omega
       | cons k r ih=>
        intro n hk h1 h2;have:=zn m k (deep+1) (hk k abw);rw[lp];split
        · omega
        · rename_i h3
          simp only[ab4] at h3;exact ih _ (fun x hx=>hk x (by simp[hx])) abu abu
      exact key t.kids _ (fun k hk=>by have:=Ty.A8 hk;omega) abu abu
theorem js (t:Ty) (deep:Nat) (hn:t.names.length≤300) {K:List Kf}:∀ (r:List Tx) (i:Nat),t.names.drop i=r→i≤t.names.length→
  go E8 (.c (.loop boa):: .b 0::K) ⟨[(1,.d (.int .i64 ((deep:Int)))),(2,.ref 0 2 0),(5,.d (.int .i64 (1))),(6,.d (.int .i64 ((i:Int))))],BH 2 t⟩=
    if jh r then some (.d (.int .i64 (1000)),[]) else go E8 K ⟨[(1,.d (.int .i64 ((deep:Int)))),(2,.ref 0 2 0),(5,.d (.int .i64 (1))),(6,.d (.int .i64 ((t.names.length:Int)))),(26,.d (.bool (false)))],BH 2 t⟩
 | [],i,hr,hi=>by
  have:=aq hr;have:i=t.names.length:=abu;subst this;have d_a:decide ((t.names.length:Int)<t.names.length)=false:=by simp<;>omega
  rw[go_loop,if_neg (by simp[jh])]
  simp(disch:=first|exact abt|fail) only[go_sem,E8,d_a,BH]
 | s::r,i,hr,hi=>by
  obtain⟨hlt,hc,hr'⟩:=ba hr;have d_a:decide ((i:Int)<t.names.length)=true:=by simp<;>omega
  have e1:(i:Int)+1=((i+1:Nat):Int):=abu;have e2:jh (s::r)=(decide ((s.length:Int)>200)||jh r):=rfl;rw[go_loop,e2];rcases ab2 (decide ((s.length:Int)>200)) with d_x|d_x<;>have p_x:=d_x<;>simp only[ab4,ab3,acg,ab6,ne_eq] at p_x
  · rw[if_pos (by rw[d_x];rfl)]
    simp(disch:=first|exact abt|fail) only[go_sem,E8,d_a,hc,BH,d_x]
  · have ih:=js t deep hn (K:=K) r (i+1) hr' abu
    rw[d_x,Bool.false_or,← ih];simp(disch:=first|exact abt|fail) only[go_sem,E8,d_a,hc,BH,d_x,e1]
theorem l5 (t:Ty) (deep:Nat) (hd:deep≤20) (hk:t.kids.length≤300) (IH:∀ k∈t.kids,evL cfg HD 0 [.d k.d,.d (.int .i64 (((deep+1:Nat):Int)))] []=some (.d (.int .i64 (EL (deep+1) k)),[])):∀ (r:List Ty) (i:Nat) (n:Int),t.kids.drop i=r→i≤t.kids.length→1≤n→n≤1000→
  go E8 [.c (.loop arp),.b 2,.c (.seq anv .ret)] ⟨[(1,.d (.int .i64 ((deep:Int)))),(2,.ref 0 2 0),(5,.d (.int .i64 (n))),(7,.d (.int .i64 ((i:Int))))],BH 2 t⟩=some (.d (.int .i64 (Dp (deep+1) n r)),[])
 | [],i,n,hr,hi,h1,h2=>by
  have:=aq hr;have:i=t.kids.length:=abu;subst this;have d_a:decide ((t.kids.length:Int)<t.kids.length)=false:=by simp<;>omega
  rw[go_loop,td];simp(disch:=first|exact abt|fail) only[go_sem,E8,d_a,BH]
 | k::r,i,n,hr,hi,h1,h2=>by
  obtain⟨hlt,hc,hr'⟩:=ba hr;have hb:=zn _ k (deep+1) (ab5 _);have hf:=IH k (List.mem_of_getElem? hc);have d_a:decide ((i:Int)<t.kids.length)=true:=by simp<;>omega
  have e1:(i:Int)+1=((i+1:Nat):Int):=abu;have e2:(deep:Int)+1=((deep+1:Nat):Int):=abu;rw[go_loop,lp];generalize EL (deep+1) k=q at *;rcases ab2 (decide (n+q>1000)) with d_x|d_x<;>have p_x:=d_x<;>simp only[ab4,ab3,acg,ab6,ne_eq] at p_x
  · simp(disch:=first|exact abt|fail) only[go_sem,E8,d_a,hc,e2,hf,BH,d_x]
  · have ih:=l5 t deep hd hk IH r (i+1) (n+q) hr' abu abu abu
    simp only[BH] at ih;simp(disch:=first|exact abt|fail) only[go_sem,E8,d_a,hc,e2,hf,BH,d_x,e1,ih]
theorem ni:∀ (m:Nat) (t:Ty) (deep:Nat),t.size≤m→deep≤21→evL cfg HD 0 [.d t.d,.d (.int .i64 ((deep:Int)))] []=some (.d (.int .i64 (EL deep t)),[])
 |0,t,deep,h,_=>by have:=t.size_pos;omega
 | m+1,t,deep,h,hd=>by
  rw[o_au,aqw];rcases ab2 (decide ((deep:Int)>20)) with d_a|d_a<;>have p_a:=d_a<;>simp only[ab4,ab3,acg,ab6,ne_eq] at p_a
  · simp(disch:=first|exact abt|fail) only[go_sem,E8,ID,d_a]
  · rcases ab2 (decide ((t.kids.length:Int)>300)) with d_b|d_b<;>have p_b:=d_b<;>simp only[ab4,ab3,acg,ab6,ne_eq] at p_b
    · simp(disch:=first|exact abt|fail) only[go_sem,E8,ID,d_a,d_b]
    · rcases ab2 (decide ((t.names.length:Int)>300)) with d_c|d_c<;>have p_c:=d_c<;>simp only[ab4,ab3,acg,ab6,ne_eq] at p_c
      · simp(disch:=first|exact abt|fail) only[go_sem,E8,ID,d_a,d_b,d_c]
      · have IH:∀ k∈t.kids,evL cfg HD 0 [.d k.d,.d (.int .i64 (((deep+1:Nat):Int)))] []=some (.d (.int .i64 (EL (deep+1) k)),[]):=fun k hk=>ni m k (deep+1) (by have:=Ty.A8 hk;omega) abu
        have hn:=fun K=>js t deep abu (K:=K) t.names 0 rfl (aco _)
        have hl:=l5 t deep abu abu IH t.kids 0 1 rfl (aco _) abu abu;simp only[BH,nc0] at hl hn;cases hx:jh t.names with
        | true=>
         simp only[hx,if_true] at hn;simp(disch:=first|exact abt|fail) only[go_sem,E8,ID,d_a,d_b,d_c,hn]
        | false=>
         simp only[hx,acb,if_false] at hn;simp(disch:=first|exact abt|fail) only[go_sem,E8,ID,d_a,d_b,d_c,hn,hl]
theorem zf (t:Ty):evL cfg RB 0 [.d t.d] []=some (.d (.bool (FJ t)),[]):=by
 have h1:=ni _ t 1 (ab5 _) abu;rw[show((1:Nat):Int)=1 from rfl] at h1
 rw[o_dr];simp(disch:=first|exact abt|fail) only[go_sem,X_dr,Yg,h1,FJ]
