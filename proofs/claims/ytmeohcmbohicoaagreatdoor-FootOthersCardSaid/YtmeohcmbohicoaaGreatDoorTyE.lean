import Derived.Test.YtmeohcmbohicoaaGreatDoorTyD
namespace Go.Proofs.YtmeohcmbohicoaaGreatDoor
open Go Go.Ev
set_option maxHeartbeats 4000000
def nodT (t:Ty) (ks:List Nat) (parent deep:Int):D:= .agg [.int .i64 t.kind,.sl (ks.map intN),.sl (t.names.map D.str),.int .i64 t.len,.int .i64 t.prec,.int .i64 t.scale,.int .i64 parent,.int .i64 deep]
mutual
def flatT (i:Nat) (parent deep:Int):Ty→List D
 | .mk k ns ks l p s=>nodT (.mk k ns ks l p s) (kidAt (i+1) ks) parent deep::fh (i+1) i (deep+1) ks
def fh (i:Nat) (parent:Nat) (deep:Int):List Ty→List D
 | []=>[]
 |k::r=>flatT i parent deep k++fh (i+k.size) parent deep r
end
theorem flatT_eq (i:Nat) (parent deep:Int) (t:Ty):flatT i parent deep t=nodT t (kidAt (i+1) t.kids) parent deep::fh (i+1) i (deep+1) t.kids:=by
 cases t;rw[flatT];rfl
theorem flatTs_cons (i:Nat) (parent:Nat) (deep:Int) (k:Ty) (r:List Ty):fh i parent deep (k::r)=flatT i parent deep k++fh (i+k.size) parent deep r:=by rw[fh]
theorem flatTs_nil (i:Nat) (parent:Nat) (deep:Int):fh i parent deep []=[]:=by rw[fh]
theorem kidAt_cons (i:Nat) (k:Ty) (r:List Ty):kidAt i (k::r)=i::kidAt (i+k.size) r:=rfl
mutual
theorem flatT_len:∀ (t:Ty) (i:Nat) (parent deep:Int),(flatT i parent deep t).length=t.size
 | .mk k ns ks l p s,i,parent,deep=>by rw[flatT,List.length_cons,flatTs_len ks,Ty.size];omega
theorem flatTs_len:∀ (ks:List Ty) (i parent:Nat) (deep:Int),(fh i parent deep ks).length=Ty.sizes ks
 | [],_,_,_=>by rw[fh,Ty.sizes];rfl
 |k::r,i,parent,deep=>by rw[fh,v8,flatT_len k,flatTs_len r,Ty.sizes]
end
theorem clone_strs (ns:List Tx) (h:ns.length≤1000000):evL cfg n_bb 0 [.d (.sl (ns.map D.str))] []=some ((if ns.isEmpty then .d .nilS else .own false 1 (ns.map D.str)),[]):=by
 cases ns with
 |nil=>exact az (n:=3) vo
 | cons c b=>
  rw[o_bb];rw[List.length_cons] at h;simp(disch:=first|exact vm|fail) only[go_sem,X_bb,c_bb,List.isEmpty]
abbrev flE (t:Ty) (i:Nat) (pre:List D) (acc:List Nat) (at':Nat) (deep:Int):List (Nat×V):=
 [(0,.own false 8 pre),(3,.d (.int .i64 (deep))),(9,.d (.int .i64 ((at':Int)))),(10,ownZ 1 (acc.map intN)),(34,.d (.sl (t.kids.map Ty.d))),(35,.d (.int .i64 ((t.kids.length:Int)))),(36,.d (.int .i64 ((i:Int))))]
theorem fl_loop (t:Ty) (at':Nat) (deep:Int) (hd:0≤deep∧deep≤1000) (hk:t.kids.length≤1000000)
  (IH:∀ k∈t.kids,∀ pre:List D,pre≠[]→pre.length+k.size≤1000000→evL cfg n_a4 0 [.own false 8 pre,.d k.d,.d (.int .i64 ((at':Int))),.d (.int .i64 (deep+1))] []=some (.own false 8 (pre++flatT pre.length at' (deep+1) k),[])) (K:List Kf):
  ∀ (r:List Ty) (i:Nat) (pre:List D) (acc:List Nat) (o:Option Ty),t.kids.drop i=r→i≤t.kids.length→pre≠[]→pre.length+Ty.sizes r≤1000000→acc.length≤i→
  ∃ o',go X_a4 (.c (.loop ud):: .b 0::K) ⟨flE t i pre acc at' deep,boxT 5 t++boxK 0 12 o⟩=
    go X_a4 K ⟨flE t t.kids.length (pre++fh pre.length at' (deep+1) r) (acc++kidAt pre.length r) at' deep++[(37,.d (.bool (false)))],boxT 5 t++boxK 0 12 o'⟩
 | [],i,pre,acc,o,hr,hi,hp,hl,ha=>by
  have:=br hr;have:i=t.kids.length:=vn;subst this;refine⟨o,?_⟩;have d_a:decide ((t.kids.length:Int)<t.kids.length)=false:=by simp<;>omega
  have hS:=fun e=>dq e 0 12 o
  rw[go_loop,flatTs_nil,List.append_nil,show kidAt pre.length []=[] from rfl,List.append_nil]
  generalize boxK 0 12 o=T at *;simp only[boxT,List.cons_append,List.nil_append];simp(disch:=first|exact vm|fail) only[go_sem,X_a4,d_a,ab,hS]
 | k::r,i,pre,acc,o,hr,hi,hp,hl,ha=>by
  obtain⟨hlt,hc,hr'⟩:=cc hr;rw[Ty.sizes] at hl;have hf:=IH k (List.mem_of_getElem? hc) pre hp vn;have e:(pre++flatT pre.length at' (deep+1) k).length=pre.length+k.size:=by rw[v8,flatT_len]
  obtain⟨o',ih⟩:=fl_loop t at' deep hd hk IH K r (i+1) (pre++flatT pre.length at' (deep+1) k) (acc++[pre.length]) (some k) hr' hlt (by simp[hp]) (by rw[e];omega) (by simp;omega)
  refine⟨o',Eq.trans ?_ (ih.trans ?_)⟩
  · have d_a:decide ((i:Int)<t.kids.length)=true:=by simp<;>omega
    have hS:=fun e=>dq e 0 12 o
    have hF:=se 0 12 o;generalize boxK 0 12 o=T at *;simp only[flE];rw[show ownZ 1 ((acc++[pre.length]).map intN)= .own false 1 (acc.map intN++[.int .i64 (pre.length:Int)]) by rw[List.map_append,List.map_cons,List.map_nil,bt];rfl]
    simp only[boxT,boxK,boxY,List.cons_append,List.nil_append]
    conv=>lhs;rw[go_loop]
    have hm:acc.length≤1000000:=vn;cases acc with
    |nil=>simp(disch:=first|exact vm|fail) only[go_sem,X_a4,d_a,ab,hS,hF,hc,hf,List.map_nil,af,List.nil_append,Int.natCast_add]
    | cons y acc=>
     simp only[List.length_cons] at hm;simp(disch:=first|exact vm|fail) only[go_sem,X_a4,d_a,ab,hS,hF,hc,hf,List.map_cons,ak,List.cons_append,List.length_cons,vu,Int.natCast_add]
  · rw[e,flatTs_cons,kidAt_cons,wh,wh,List.singleton_append]
theorem set_node (L:List D) (t:Ty) (parent deep:Int) (rest:List D) (ks:List Nat):
  (L++nodT t [] parent deep::rest)[L.length]? =some (nodT t [] parent deep)∧(L++nodT t [] parent deep::rest).set L.length (nodT t ks parent deep)=L++nodT t ks parent deep::rest:=by
 refine⟨by simp,by simp⟩
theorem setAt_node (t:Ty) (parent deep:Int) (ks:List Nat):(nodT t [] parent deep).setAt 1 [.sl (ks.map intN)]=some (nodT t ks parent deep):=rfl
theorem types_flatten_ans:∀ (m:Nat) (t:Ty) (L:List D) (parent deep:Int),t.size≤m→fewK m t→inI parent→0≤deep∧deep+t.size≤900→L.length+t.size≤1000000→
  evL cfg n_a4 0 [ownZ 8 L,.d t.d,.d (.int .i64 (parent)),.d (.int .i64 (deep))] []=some (.own false 8 (L++flatT L.length parent deep t),[])
 |0,t,_,_,_,h,_,_,_,_=>by have:=t.size_pos;omega
 | m+1,t,L,parent,deep,h,hs,hp,hd,hL=>by
  obtain⟨s1,s2,s3⟩:=hs;have hsz:=t.size_eq;have IH:∀ k∈t.kids,∀ pre:List D,pre≠[]→pre.length+k.size≤1000000→evL cfg n_a4 0 [.own false 8 pre,.d k.d,.d (.int .i64 ((L.length:Int))),.d (.int .i64 (deep+1))] []=some (.own false 8 (pre++flatT pre.length L.length (deep+1) k),[]):=by
   intro k hk pre hpre hl;have hk2:=Ty.size_kid hk;have:=types_flatten_ans m k pre L.length (deep+1) vn (s3 k hk) (by unfold inI;omega) vn hl
   cases pre with
   |nil=>exact absurd rfl hpre
   |cons y pre=>exact this
  have hlp:=fun K=>fl_loop t L.length deep vn s2 IH K t.kids 0 (L++[nodT t [] parent deep]) [] none rfl (ww _) vq (by simp;omega) (ww _)
  have hc:=clone_strs t.names s1;have fin:∀ (o:Option Ty) (ks:List Nat) (rest:List D),rest.length≤1000000→go X_a4 [.c (((ICode.demote [10]).seq o9).seq (oz.seq .ret))] ⟨flE t t.kids.length (L++nodT t [] parent deep::rest) ks L.length deep++[(37,.d (.bool (false)))],boxT 5 t++boxK 0 12 o⟩=some (.own false 8 (L++nodT t ks parent deep::rest),[]):=by
   intro o ks rest hr;have hS:=fun e=>dq e 0 12 o
   have hLv:=j6 0 12 o;generalize boxK 0 12 o=T at *;obtain⟨g1,g2⟩:=set_node L t parent deep rest ks;have g3:=setAt_node t parent deep ks;have hlt:L.length<(L++nodT t [] parent deep::rest).length:=by simp
   have g4:(nodT t [] parent deep).cells.length=8:=rfl;generalize nodT t [] parent deep=nd at *;generalize L++nd::rest=L1 at *;generalize L++nodT t ks parent deep::rest=L2 at *;simp only[boxT,flE,List.cons_append,List.nil_append];cases ks with
   | nil=>
    simp only[List.map_nil] at g3 ⊢;simp(disch:=first|exact vm|fail) only[go_sem,X_a4,hS,hLv,af,g1,g2,g3,g4]
   | cons y ks=>
    simp only[List.map_cons] at g3 ⊢;simp(disch:=first|exact vm|fail) only[go_sem,X_a4,hS,hLv,ak,g1,g2,g3,g4]
  rw[flatT_eq];have main:∀ X:List V,go X_a4 [.c (.loop ud),.b 0,.c (((ICode.demote [10]).seq o9).seq (oz.seq .ret))] ⟨flE t 0 (L++[nodT t [] parent deep]) [] L.length deep,boxT 5 t⟩=some (.own false 8 (L++nodT t (kidAt (L.length+1) t.kids) parent deep::fh (L.length+1) L.length (deep+1) t.kids),[]):=by
   intro X;obtain⟨o,h1⟩:=hlp [.c (((ICode.demote [10]).seq o9).seq (oz.seq .ret))];rw[afy,List.append_nil] at h1;refine h1.trans ?_;have e1:(L++[nodT t [] parent deep]).length=L.length+1:=by simp
   rw[e1,List.nil_append,wh,List.singleton_append];exact fin o _ _ (by rw[flatTs_len];omega)
  have main:=main [];clear fin hlp IH;simp only[flE,boxT,List.map_nil,af] at main;have g5:(nodT t [] parent deep).cells.length=8:=rfl;unfold nodT at main g5 ⊢;simp only[List.map_nil] at main g5;cases hn:t.names with
  | nil=>
   rw[hn] at hc main;simp only[List.isEmpty_nil,if_true,List.map_nil] at hc main;cases L with
   | nil=>
    rw[af,e_a4 0 _ _ rfl rfl];simp only[List.nil_append,List.length_nil] at main ⊢;simp(disch:=first|exact vm|fail) only[go_sem,X_a4,c_a4,hn,hc,len8]
    exact main
   | cons y L=>
    rw[ak,e_a4 0 _ _ rfl rfl];simp only[List.cons_append,List.length_cons] at main hL ⊢;simp(disch:=first|exact vm|fail) only[go_sem,X_a4,c_a4,hn,hc,len8]
    exact main
  | cons x ns=>
   rw[hn] at hc main;simp only[List.isEmpty_cons,vv,if_false,List.map_cons] at hc main;cases L with
   | nil=>
    rw[af,e_a4 0 _ _ rfl rfl];simp only[List.nil_append,List.length_nil] at main ⊢;simp(disch:=first|exact vm|fail) only[go_sem,X_a4,c_a4,hn,hc,len8]
    exact main
   | cons y L=>
    rw[ak,e_a4 0 _ _ rfl rfl];simp only[List.cons_append,List.length_cons] at main hL ⊢;simp(disch:=first|exact vm|fail) only[go_sem,X_a4,c_a4,hn,hc,len8]
    exact main
