import Derived.Test.YtkdiccgfbfbjlaaGreatTyD
set_option linter.unusedSectionVars false
namespace Go.Proofs.YtkdiccgfbfbjlaaGreat
open Go Go.Ev
variable [Sh]
set_option maxHeartbeats 4000000
def CO (t:Ty) (ks:List Nat) (parent deep:Int):D:= .agg [.int .i64 t.kind,.sl (ks.map Rv),.sl (t.names.map D.str),.int .i64 t.len,.int .i64 t.prec,.int .i64 t.scale,.int .i64 parent,.int .i64 deep]
mutual
def Cp (i:Nat) (parent deep:Int):Ty→List D
 | .mk k ns ks l p s=>CO (.mk k ns ks l p s) (Ba (i+1) ks) parent deep::gx (i+1) i (deep+1) ks
def gx (i:Nat) (parent:Nat) (deep:Int):List Ty→List D
 | []=>[]
 |k::r=>Cp i parent deep k++gx (i+k.size) parent deep r
end
theorem GM (i:Nat) (parent deep:Int) (t:Ty):Cp i parent deep t=CO t (Ba (i+1) t.kids) parent deep::gx (i+1) i (deep+1) t.kids:=by
 cases t;rw[Cp];rfl
theorem Fo (i:Nat) (parent:Nat) (deep:Int) (k:Ty) (r:List Ty):gx i parent deep (k::r)=Cp i parent deep k++gx (i+k.size) parent deep r:=by rw[gx]
theorem GL (i:Nat) (parent:Nat) (deep:Int):gx i parent deep []=[]:=by rw[gx]
theorem Pz (i:Nat) (k:Ty) (r:List Ty):Ba i (k::r)=i::Ba (i+k.size) r:=rfl
mutual
theorem Fe:∀ (t:Ty) (i:Nat) (parent deep:Int),(Cp i parent deep t).length=t.size
 | .mk k ns ks l p s,i,parent,deep=>by rw[Cp,List.length_cons,E4 ks,Ty.size];omega
theorem E4:∀ (ks:List Ty) (i parent:Nat) (deep:Int),(gx i parent deep ks).length=Ty.Aq ks
 | [],_,_,_=>by rw[gx,Ty.Aq];rfl
 |k::r,i,parent,deep=>by rw[gx,aci,Fe k,E4 r,Ty.Aq]
end
theorem P8 (ns:List Tx) (h:ns.length≤1000000):evL cfg RV 0 [.d (.sl (ns.map D.str))] []=some ((if ns.isEmpty then .d .AL else .own false 1 (ns.map D.str)),[]):=by
 cases ns with
 |nil=>exact ak (n:=3) abv
 | cons c b=>
  rw[o_cc];rw[List.length_cons] at h;simp(disch:=first|exact abt|fail) only[go_sem,X_cc,Yx,List.isEmpty]
abbrev flE (t:Ty) (i:Nat) (pre:List D) (acc:List Nat) (at':Nat) (deep:Int):List (Nat×V):=
 [(0,.own false 8 pre),(3,.d (.int .i64 (deep))),(9,.d (.int .i64 ((at':Int)))),(10,Hj 1 (acc.map Rv)),(34,.d (.sl (t.kids.map Ty.d))),(35,.d (.int .i64 ((t.kids.length:Int)))),(36,.d (.int .i64 ((i:Int))))]
theorem Qe (t:Ty) (at':Nat) (deep:Int) (hd:0≤deep∧deep≤1000) (hk:t.kids.length≤1000000)
  (IH:∀ k∈t.kids,∀ pre:List D,pre≠[]→pre.length+k.size≤1000000→evL cfg Hu 0 [.own false 8 pre,.d k.d,.d (.int .i64 ((at':Int))),.d (.int .i64 (deep+1))] []=some (.own false 8 (pre++Cp pre.length at' (deep+1) k),[])) (K:List Kf):
  ∀ (r:List Ty) (i:Nat) (pre:List D) (acc:List Nat) (o:Option Ty),t.kids.drop i=r→i≤t.kids.length→pre≠[]→pre.length+Ty.Aq r≤1000000→acc.length≤i→
  ∃ o',go Fg (.c (.loop aaf):: .b 0::K) ⟨flE t i pre acc at' deep,BH 5 t++EC 0 12 o⟩=
    go Fg K ⟨flE t t.kids.length (pre++gx pre.length at' (deep+1) r) (acc++Ba pre.length r) at' deep++[(37,.d (.bool (false)))],BH 5 t++EC 0 12 o'⟩
 | [],i,pre,acc,o,hr,hi,hp,hl,ha=>by
  have:=aq hr;have:i=t.kids.length:=abu;subst this;refine⟨o,?_⟩;have d_a:decide ((t.kids.length:Int)<t.kids.length)=false:=by simp<;>omega
  have hS:=fun e=>dz e 0 12 o
  rw[go_loop,GL,List.append_nil,show Ba pre.length []=[] from rfl,List.append_nil]
  generalize EC 0 12 o=T at *;simp only[BH,List.cons_append,List.nil_append];simp(disch:=first|exact abt|fail) only[go_sem,Fg,d_a,sx,hS]
 | k::r,i,pre,acc,o,hr,hi,hp,hl,ha=>by
  obtain⟨hlt,hc,hr'⟩:=ba hr;rw[Ty.Aq] at hl;have hf:=IH k (List.mem_of_getElem? hc) pre hp abu;have e:(pre++Cp pre.length at' (deep+1) k).length=pre.length+k.size:=by rw[aci,Fe]
  obtain⟨o',ih⟩:=Qe t at' deep hd hk IH K r (i+1) (pre++Cp pre.length at' (deep+1) k) (acc++[pre.length]) (some k) hr' hlt (by simp[hp]) (by rw[e];omega) (by simp;omega)
  refine⟨o',Eq.trans ?_ (ih.trans ?_)⟩
  · have d_a:decide ((i:Int)<t.kids.length)=true:=by simp<;>omega
    have hS:=fun e=>dz e 0 12 o
    have hF:=we 0 12 o;generalize EC 0 12 o=T at *;simp only[flE];rw[show Hj 1 ((acc++[pre.length]).map Rv)= .own false 1 (acc.map Rv++[.int .i64 (pre.length:Int)]) by rw[List.map_append,List.map_cons,List.map_nil,blc];rfl]
    simp only[BH,EC,FL,List.cons_append,List.nil_append]
    conv=>lhs;rw[go_loop]
    have hm:acc.length≤1000000:=abu;cases acc with
    |nil=>simp(disch:=first|exact abt|fail) only[go_sem,Fg,d_a,sx,hS,hF,hc,hf,List.map_nil,li,List.nil_append,Int.natCast_add]
    | cons y acc=>
     simp only[List.length_cons] at hm;simp(disch:=first|exact abt|fail) only[go_sem,Fg,d_a,sx,hS,hF,hc,hf,List.map_cons,my,List.cons_append,List.length_cons,aby,Int.natCast_add]
  · rw[e,Fo,Pz,ac4,ac4,List.singleton_append]
theorem S6 (L:List D) (t:Ty) (parent deep:Int) (rest:List D) (ks:List Nat):
  (L++CO t [] parent deep::rest)[L.length]? =some (CO t [] parent deep)∧(L++CO t [] parent deep::rest).set L.length (CO t ks parent deep)=L++CO t ks parent deep::rest:=by
 refine⟨by simp,by simp⟩
theorem IX (t:Ty) (parent deep:Int) (ks:List Nat):(CO t [] parent deep).setAt 1 [.sl (ks.map Rv)]=some (CO t ks parent deep):=rfl
theorem DX:∀ (m:Nat) (t:Ty) (L:List D) (parent deep:Int),t.size≤m→H5 m t→inI parent→0≤deep∧deep+t.size≤900→L.length+t.size≤1000000→
  evL cfg Hu 0 [Hj 8 L,.d t.d,.d (.int .i64 (parent)),.d (.int .i64 (deep))] []=some (.own false 8 (L++Cp L.length parent deep t),[])
 |0,t,_,_,_,h,_,_,_,_=>by have:=t.size_pos;omega
 | m+1,t,L,parent,deep,h,hs,hp,hd,hL=>by
  obtain⟨s1,s2,s3⟩:=hs;have hsz:=t.size_eq;have IH:∀ k∈t.kids,∀ pre:List D,pre≠[]→pre.length+k.size≤1000000→evL cfg Hu 0 [.own false 8 pre,.d k.d,.d (.int .i64 ((L.length:Int))),.d (.int .i64 (deep+1))] []=some (.own false 8 (pre++Cp pre.length L.length (deep+1) k),[]):=by
   intro k hk pre hpre hl;have hk2:=Ty.A8 hk;have:=DX m k pre L.length (deep+1) abu (s3 k hk) (by unfold inI;omega) abu hl
   cases pre with
   |nil=>exact absurd rfl hpre
   |cons y pre=>exact this
  have hlp:=fun K=>Qe t L.length deep abu s2 IH K t.kids 0 (L++[CO t [] parent deep]) [] none rfl (aco _) abw (by simp;omega) (aco _)
  have hc:=P8 t.names s1;have fin:∀ (o:Option Ty) (ks:List Nat) (rest:List D),rest.length≤1000000→go Fg [.c (((AA.BV [10]).seq se).seq (sd.seq .ret))] ⟨flE t t.kids.length (L++CO t [] parent deep::rest) ks L.length deep++[(37,.d (.bool (false)))],BH 5 t++EC 0 12 o⟩=some (.own false 8 (L++CO t ks parent deep::rest),[]):=by
   intro o ks rest hr;have hS:=fun e=>dz e 0 12 o
   have hLv:=mf 0 12 o;generalize EC 0 12 o=T at *;obtain⟨g1,g2⟩:=S6 L t parent deep rest ks;have g3:=IX t parent deep ks;have hlt:L.length<(L++CO t [] parent deep::rest).length:=by simp
   have g4:(CO t [] parent deep).cells.length=8:=rfl;generalize CO t [] parent deep=nd at *;generalize L++nd::rest=L1 at *;generalize L++CO t ks parent deep::rest=L2 at *;simp only[BH,flE,List.cons_append,List.nil_append];cases ks with
   | nil=>
    simp only[List.map_nil] at g3 ⊢;simp(disch:=first|exact abt|fail) only[go_sem,Fg,hS,hLv,li,g1,g2,g3,g4]
   | cons y ks=>
    simp only[List.map_cons] at g3 ⊢;simp(disch:=first|exact abt|fail) only[go_sem,Fg,hS,hLv,my,g1,g2,g3,g4]
  rw[GM];have main:∀ X:List V,go Fg [.c (.loop aaf),.b 0,.c (((AA.BV [10]).seq se).seq (sd.seq .ret))] ⟨flE t 0 (L++[CO t [] parent deep]) [] L.length deep,BH 5 t⟩=some (.own false 8 (L++CO t (Ba (L.length+1) t.kids) parent deep::gx (L.length+1) L.length (deep+1) t.kids),[]):=by
   intro X;obtain⟨o,h1⟩:=hlp [.c (((AA.BV [10]).seq se).seq (sd.seq .ret))];rw[ale,List.append_nil] at h1;refine h1.trans ?_;have e1:(L++[CO t [] parent deep]).length=L.length+1:=by simp
   rw[e1,List.nil_append,ac4,List.singleton_append];exact fin o _ _ (by rw[E4];omega)
  have main:=main [];clear fin hlp IH;simp only[flE,BH,List.map_nil,li] at main;have g5:(CO t [] parent deep).cells.length=8:=rfl;unfold CO at main g5 ⊢;simp only[List.map_nil] at main g5;cases hn:t.names with
  | nil=>
   rw[hn] at hc main;simp only[List.isEmpty_nil,if_true,List.map_nil] at hc main;cases L with
   | nil=>
    rw[li,YJ 0 _ _ rfl rfl];simp only[List.nil_append,List.length_nil] at main ⊢;simp(disch:=first|exact abt|fail) only[go_sem,Fg,SE,hn,hc,len8]
    exact main
   | cons y L=>
    rw[my,YJ 0 _ _ rfl rfl];simp only[List.cons_append,List.length_cons] at main hL ⊢;simp(disch:=first|exact abt|fail) only[go_sem,Fg,SE,hn,hc,len8]
    exact main
  | cons x ns=>
   rw[hn] at hc main;simp only[List.isEmpty_cons,acb,if_false,List.map_cons] at hc main;cases L with
   | nil=>
    rw[li,YJ 0 _ _ rfl rfl];simp only[List.nil_append,List.length_nil] at main ⊢;simp(disch:=first|exact abt|fail) only[go_sem,Fg,SE,hn,hc,len8]
    exact main
   | cons y L=>
    rw[my,YJ 0 _ _ rfl rfl];simp only[List.cons_append,List.length_cons] at main hL ⊢;simp(disch:=first|exact abt|fail) only[go_sem,Fg,SE,hn,hc,len8]
    exact main
end Go.Proofs.YtkdiccgfbfbjlaaGreat
namespace Go.Proofs.YtkdiccgfbfbjlaaGreat
open Go Go.Ev
variable [Sh]
set_option maxHeartbeats 4000000
theorem baa:∀ (m:Nat) (t:Ty) (deep:Nat) (n:Int),t.size≤m→(BP deep n t).2=0→(BP deep n t).1=n+t.size
 |0,t,_,_,h,_=>by have:=t.size_pos;omega
 | m+1,t,deep,n,h,hc=>by
  have key:∀ (l:List Ty) (n:Int),(∀ k∈l,k.size≤m)→(Cq (deep+1) n l).2=0→(Cq (deep+1) n l).1=n+Ty.Aq l:=by
    intro l
    induction l with
    |nil=>intro n _ _;rw[n8,Ty.Aq];simp
    | cons k r ih=>
     intro n hk hz;rw[ft] at hz ⊢;by_cases hx:((BP (deep+1) n k).2 !=0)=true
     · rw[if_pos hx] at hz
       rw[hz] at hx;simp at hx
     · rw[if_neg hx] at hz ⊢
       have h0:(BP (deep+1) n k).2=0:=by simpa using hx
       have h1:=baa m k (deep+1) n (hk k abw) h0;have h2:=ih _ (fun x hx=>hk x (by simp[hx])) hz
       rw[h2,h1,Ty.Aq];omega
  rw[ph] at hc ⊢;by_cases h1:(decide ((deep:Int)>16)||decide (n≥100))=true
  · rw[if_pos h1] at hc;simp at hc
  rw[if_neg h1] at hc ⊢;by_cases h2:(B1 t !=0)=true
  · rw[if_pos h2] at hc
    simp only at hc;rw[hc] at h2;simp at h2
  rw[if_neg h2] at hc ⊢;rw[key t.kids (n+1) (fun k hk=>by have:=Ty.A8 hk;omega) hc,t.size_eq];omega
theorem tp {t:Ty} (h:(BP 1 0 t).2=0):t.size≤100:=by
 have h1:=baa _ t 1 0 (ab5 _) h;have h2:=(zz _ t 1 0 (ab5 _) abu).2;omega
theorem qg (t:Ty) (hs:H5 t.size t) (h:(BP 1 0 t).2=0):evL cfg RC 0 [.d t.d] []=some (.d (.sl (Cp 0 (-1) 1 t)),[]):=by
 have hz:=tp h;have h1:=q8 t hs;have h2:=DX t.size t [] (-1) 1 (ab5 _) hs (by unfold inI;omega) abu (by simp;omega)
 rw[h] at h1;rw[li,List.nil_append,List.length_nil] at h2;rw[o_dq];have Ai:Cp 0 (-1) 1 t≠[]:=by rw[GM];simp
 generalize Cp 0 (-1) 1 t=q at *;simp(disch:=first|exact abt|fail) only[go_sem,X_dq,Yh,h1,h2]
