import Derived.Test.YtpnhljhciibfnaaGreatDoorTyD
import Derived.Test.YtpnhljhciibfnaaGreatDoorStX
set_option linter.unusedSimpArgs false
set_option linter.unusedSectionVars false
namespace Go.Proofs.YtpnhljhciibfnaaGreatDoor
open Go Go.Ev
set_option maxHeartbeats 4000000
def C5 (t:Ty) (ks:List Nat) (parent deep:Int):D:= .agg [.int .i64 t.kind,.sl (ks.map T8),.sl (t.names.map D.str),.int .i64 t.len,.int .i64 t.prec,.int .i64 t.scale,.int .i64 parent,.int .i64 deep]
mutual
def DR (i:Nat) (parent deep:Int):Ty→List D
 | .mk k ns ks l p s=>C5 (.mk k ns ks l p s) (Ci (i+1) ks) parent deep::jn (i+1) i (deep+1) ks
def jn (i:Nat) (parent:Nat) (deep:Int):List Ty→List D
 | []=>[]
 |k::r=>DR i parent deep k++jn (i+k.size) parent deep r
end
theorem Gc (i:Nat) (parent deep:Int) (t:Ty):DR i parent deep t=C5 t (Ci (i+1) t.kids) parent deep::jn (i+1) i (deep+1) t.kids:=by
 cases t;rw[DR];rfl
theorem IM (i:Nat) (parent:Nat) (deep:Int) (k:Ty) (r:List Ty):jn i parent deep (k::r)=DR i parent deep k++jn (i+k.size) parent deep r:=by rw[jn]
theorem SG (i:Nat) (parent:Nat) (deep:Int):jn i parent deep []=[]:=by rw[jn]
theorem SC (i:Nat) (k:Ty) (r:List Ty):Ci i (k::r)=i::Ci (i+k.size) r:=rfl
mutual
theorem HH:∀ (t:Ty) (i:Nat) (parent deep:Int),(DR i parent deep t).length=t.size
 | .mk k ns ks l p s,i,parent,deep=>by rw[DR,List.length_cons,Es ks,Ty.size];omega
theorem Es:∀ (ks:List Ty) (i parent:Nat) (deep:Int),(jn i parent deep ks).length=Ty.BN ks
 | [],_,_,_=>by rw[jn,Ty.BN];rfl
 |k::r,i,parent,deep=>by rw[jn,abk,HH k,Es r,Ty.BN]
end
theorem SL (ns:List Tx) (h:ns.length≤1000000):evL cfg To 0 [.d (.sl (ns.map D.str))] []=some ((if ns.isEmpty then .d .AB else .own false 1 (ns.map D.str)),[]):=by
 cases ns with
 |nil=>exact ec (n:=3) aa2
 | cons c b=>
  rw[o_bt];rw[List.length_cons] at h;simp(disch:=first|exact aa0|fail) only[go_sem,X_bt,aQ,List.isEmpty]
abbrev flE (t:Ty) (i:Nat) (pre:List D) (acc:List Nat) (at':Nat) (deep:Int):List (Nat×V):=
 [(0,.own false 8 pre),(3,.d (.int .i64 (deep))),(9,.d (.int .i64 ((at':Int)))),(10,Dd 1 (acc.map T8)),(34,.d (.sl (t.kids.map Ty.d))),(35,.d (.int .i64 ((t.kids.length:Int)))),(36,.d (.int .i64 ((i:Int))))]
theorem Sw (t:Ty) (at':Nat) (deep:Int) (hd:0≤deep∧deep≤1000) (hk:t.kids.length≤1000000)
  (IH:∀ k∈t.kids,∀ pre:List D,pre≠[]→pre.length+k.size≤1000000→evL cfg R6 0 [.own false 8 pre,.d k.d,.d (.int .i64 ((at':Int))),.d (.int .i64 (deep+1))] []=some (.own false 8 (pre++DR pre.length at' (deep+1) k),[])) (K:List Kf):
  ∀ (r:List Ty) (i:Nat) (pre:List D) (acc:List Nat) (o:Option Ty),t.kids.drop i=r→i≤t.kids.length→pre≠[]→pre.length+Ty.BN r≤1000000→acc.length≤i→
  ∃ o',go Fj (.c (.loop aac):: .b 0::K) ⟨flE t i pre acc at' deep,Au 5 t++EB 0 12 o⟩=
    go Fj K ⟨flE t t.kids.length (pre++jn pre.length at' (deep+1) r) (acc++Ci pre.length r) at' deep++[(37,.d (.bool (false)))],Au 5 t++EB 0 12 o'⟩
 | [],i,pre,acc,o,hr,hi,hp,hl,ha=>by
  have:=de hr;have:i=t.kids.length:=aa1;subst this;refine⟨o,?_⟩;have d_a:decide ((t.kids.length:Int)<t.kids.length)=false:=by simp<;>omega
  have hS:=fun e=>fw e 0 12 o
  rw[go_loop,SG,List.append_nil,show Ci pre.length []=[] from rfl,List.append_nil]
  generalize EB 0 12 o=T at *;simp only[Au,List.cons_append,List.nil_append];simp(disch:=first|exact aa0|fail) only[go_sem,Fj,d_a,cd,hS]
 | k::r,i,pre,acc,o,hr,hi,hp,hl,ha=>by
  obtain⟨hlt,hc,hr'⟩:=ej hr;rw[Ty.BN] at hl;have hf:=IH k (List.mem_of_getElem? hc) pre hp aa1;have e:(pre++DR pre.length at' (deep+1) k).length=pre.length+k.size:=by rw[abk,HH]
  obtain⟨o',ih⟩:=Sw t at' deep hd hk IH K r (i+1) (pre++DR pre.length at' (deep+1) k) (acc++[pre.length]) (some k) hr' hlt (by simp[hp]) (by rw[e];omega) (by simp;omega)
  refine⟨o',Eq.trans ?_ (ih.trans ?_)⟩
  · have d_a:decide ((i:Int)<t.kids.length)=true:=by simp<;>omega
    have hS:=fun e=>fw e 0 12 o
    have hF:=xm 0 12 o;generalize EB 0 12 o=T at *;simp only[flE];rw[show Dd 1 ((acc++[pre.length]).map T8)= .own false 1 (acc.map T8++[.int .i64 (pre.length:Int)]) by rw[List.map_append,List.map_cons,List.map_nil,ug];rfl]
    simp only[Au,EB,FG,List.cons_append,List.nil_append]
    conv=>lhs;rw[go_loop]
    have hm:acc.length≤1000000:=aa1;cases acc with
    |nil=>simp(disch:=first|exact aa0|fail) only[go_sem,Fj,d_a,cd,hS,hF,hc,hf,List.map_nil,bh,List.nil_append,Int.natCast_add]
    | cons y acc=>
     simp only[List.length_cons] at hm;simp(disch:=first|exact aa0|fail) only[go_sem,Fj,d_a,cd,hS,hF,hc,hf,List.map_cons,bm,List.cons_append,List.length_cons,abl,Int.natCast_add]
  · rw[e,IM,SC,abv,abv,List.singleton_append]
theorem U0 (L:List D) (t:Ty) (parent deep:Int) (rest:List D) (ks:List Nat):
  (L++C5 t [] parent deep::rest)[L.length]? =some (C5 t [] parent deep)∧(L++C5 t [] parent deep::rest).set L.length (C5 t ks parent deep)=L++C5 t ks parent deep::rest:=by
 refine⟨by simp,by simp⟩
theorem Iu (t:Ty) (parent deep:Int) (ks:List Nat):(C5 t [] parent deep).setAt 1 [.sl (ks.map T8)]=some (C5 t ks parent deep):=rfl
theorem DM:∀ (m:Nat) (t:Ty) (L:List D) (parent deep:Int),t.size≤m→IQ m t→inI parent→0≤deep∧deep+t.size≤900→L.length+t.size≤1000000→
  evL cfg R6 0 [Dd 8 L,.d t.d,.d (.int .i64 (parent)),.d (.int .i64 (deep))] []=some (.own false 8 (L++DR L.length parent deep t),[])
 |0,t,_,_,_,h,_,_,_,_=>by have:=t.size_pos;omega
 | m+1,t,L,parent,deep,h,hs,hp,hd,hL=>by
  obtain⟨s1,s2,s3⟩:=hs;have hsz:=t.size_eq;have IH:∀ k∈t.kids,∀ pre:List D,pre≠[]→pre.length+k.size≤1000000→evL cfg R6 0 [.own false 8 pre,.d k.d,.d (.int .i64 ((L.length:Int))),.d (.int .i64 (deep+1))] []=some (.own false 8 (pre++DR pre.length L.length (deep+1) k),[]):=by
   intro k hk pre hpre hl;have hk2:=Ty.Bu hk;have:=DM m k pre L.length (deep+1) aa1 (s3 k hk) (by unfold inI;omega) aa1 hl
   cases pre with
   |nil=>exact absurd rfl hpre
   |cons y pre=>exact this
  have hlp:=fun K=>Sw t L.length deep aa1 s2 IH K t.kids 0 (L++[C5 t [] parent deep]) [] none rfl (acj _) aa3 (by simp;omega) (acj _)
  have hc:=SL t.names s1;have fin:∀ (o:Option Ty) (ks:List Nat) (rest:List D),rest.length≤1000000→go Fj [.c (((AD.Bw [10]).seq tz).seq (tx.seq .ret))] ⟨flE t t.kids.length (L++C5 t [] parent deep::rest) ks L.length deep++[(37,.d (.bool (false)))],Au 5 t++EB 0 12 o⟩=some (.own false 8 (L++C5 t ks parent deep::rest),[]):=by
   intro o ks rest hr;have hS:=fun e=>fw e 0 12 o
   have hLv:=om 0 12 o;generalize EB 0 12 o=T at *;obtain⟨g1,g2⟩:=U0 L t parent deep rest ks;have g3:=Iu t parent deep ks;have hlt:L.length<(L++C5 t [] parent deep::rest).length:=by simp
   have g4:(C5 t [] parent deep).cells.length=8:=rfl;generalize C5 t [] parent deep=nd at *;generalize L++nd::rest=L1 at *;generalize L++C5 t ks parent deep::rest=L2 at *;simp only[Au,flE,List.cons_append,List.nil_append];cases ks with
   | nil=>
    simp only[List.map_nil] at g3 ⊢;simp(disch:=first|exact aa0|fail) only[go_sem,Fj,hS,hLv,bh,g1,g2,g3,g4]
   | cons y ks=>
    simp only[List.map_cons] at g3 ⊢;simp(disch:=first|exact aa0|fail) only[go_sem,Fj,hS,hLv,bm,g1,g2,g3,g4]
  rw[Gc];have main:∀ X:List V,go Fj [.c (.loop aac),.b 0,.c (((AD.Bw [10]).seq tz).seq (tx.seq .ret))] ⟨flE t 0 (L++[C5 t [] parent deep]) [] L.length deep,Au 5 t⟩=some (.own false 8 (L++C5 t (Ci (L.length+1) t.kids) parent deep::jn (L.length+1) L.length (deep+1) t.kids),[]):=by
   intro X;obtain⟨o,h1⟩:=hlp [.c (((AD.Bw [10]).seq tz).seq (tx.seq .ret))];rw[aph,List.append_nil] at h1;refine h1.trans ?_;have e1:(L++[C5 t [] parent deep]).length=L.length+1:=by simp
   rw[e1,List.nil_append,abv,List.singleton_append];exact fin o _ _ (by rw[Es];omega)
  have main:=main [];clear fin hlp IH;simp only[flE,Au,List.map_nil,bh] at main;have g5:(C5 t [] parent deep).cells.length=8:=rfl;unfold C5 at main g5 ⊢;simp only[List.map_nil] at main g5;cases hn:t.names with
  | nil=>
   rw[hn] at hc main;simp only[List.isEmpty_nil,if_true,List.map_nil] at hc main;cases L with
   | nil=>
    rw[bh,ZU 0 _ _ rfl rfl];simp only[List.nil_append,List.length_nil] at main ⊢;simp(disch:=first|exact aa0|fail) only[go_sem,Fj,UM,hn,hc,len8]
    exact main
   | cons y L=>
    rw[bm,ZU 0 _ _ rfl rfl];simp only[List.cons_append,List.length_cons] at main hL ⊢;simp(disch:=first|exact aa0|fail) only[go_sem,Fj,UM,hn,hc,len8]
    exact main
  | cons x ns=>
   rw[hn] at hc main;simp only[List.isEmpty_cons,aa8,if_false,List.map_cons] at hc main;cases L with
   | nil=>
    rw[bh,ZU 0 _ _ rfl rfl];simp only[List.nil_append,List.length_nil] at main ⊢;simp(disch:=first|exact aa0|fail) only[go_sem,Fj,UM,hn,hc,len8]
    exact main
   | cons y L=>
    rw[bm,ZU 0 _ _ rfl rfl];simp only[List.cons_append,List.length_cons] at main hL ⊢;simp(disch:=first|exact aa0|fail) only[go_sem,Fj,UM,hn,hc,len8]
    exact main
theorem bfi:∀ (m:Nat) (t:Ty) (deep:Nat) (n:Int),t.size≤m→(Bk deep n t).2=0→(Bk deep n t).1=n+t.size
 |0,t,_,_,h,_=>by have:=t.size_pos;omega
 | m+1,t,deep,n,h,hc=>by
  have key:∀ (l:List Ty) (n:Int),(∀ k∈l,k.size≤m)→(Cj (deep+1) n l).2=0→(Cj (deep+1) n l).1=n+Ty.BN l:=by
    intro l
    induction l with
    |nil=>intro n _ _;rw[Ee,Ty.BN];simp
    | cons k r ih=>
     intro n hk hz;rw[DB] at hz ⊢;by_cases hx:((Bk (deep+1) n k).2 !=0)=true
     · rw[if_pos hx] at hz
       rw[hz] at hx;simp at hx
     · rw[if_neg hx] at hz ⊢
       have h0:(Bk (deep+1) n k).2=0:=by simpa using hx
       have h1:=bfi m k (deep+1) n (hk k aa3) h0;have h2:=ih _ (fun x hx=>hk x (by simp[hx])) hz
       rw[h2,h1,Ty.BN];omega
  rw[FE] at hc ⊢;by_cases h1:(decide ((deep:Int)>16)||decide (n≥100))=true
  · rw[if_pos h1] at hc;simp at hc
  rw[if_neg h1] at hc ⊢;by_cases h2:(BT t !=0)=true
  · rw[if_pos h2] at hc
    simp only at hc;rw[hc] at h2;simp at h2
  rw[if_neg h2] at hc ⊢;rw[key t.kids (n+1) (fun k hk=>by have:=Ty.Bu hk;omega) hc,t.size_eq];omega
theorem Ze {t:Ty} (h:(Bk 1 0 t).2=0):t.size≤100:=by
 have h1:=bfi _ t 1 0 (abn _) h;have h2:=(GC _ t 1 0 (abn _) aa1).2;omega
theorem sg (t:Ty) (hs:IQ t.size t) (h:(Bk 1 0 t).2=0):evL cfg HR 0 [.d t.d] []=some (.d (.sl (DR 0 (-1) 1 t)),[]):=by
 have hz:=Ze h;have h1:=te t hs;have h2:=DM t.size t [] (-1) 1 (abn _) hs (by unfold inI;omega) aa1 (by simp;omega)
 rw[h] at h1;rw[bh,List.nil_append,List.length_nil] at h2;rw[o_dm];have hne:DR 0 (-1) 1 t≠[]:=by rw[Gc];simp
 generalize DR 0 (-1) 1 t=q at *;simp(disch:=first|exact aa0|fail) only[go_sem,X_dm,Z9,h1,h2]
theorem zw {t:Ty} {deep:Nat} {n:Int} (h:(Bk deep n t).2=0):BT t=0∧∀ k∈t.kids,∃ n',(Bk (deep+1) n' k).2=0:=by
 have key:∀ (l:List Ty) (n:Int),(Cj (deep+1) n l).2=0→∀ k∈l,∃ n',(Bk (deep+1) n' k).2=0:=by
   intro l
   induction l with
   |nil=>intro n _ k hk;cases hk
   | cons y r ih=>
    intro n hz k hk;rw[DB] at hz;by_cases hx:((Bk (deep+1) n y).2 !=0)=true
    · rw[if_pos hx] at hz
      rw[hz] at hx;simp at hx
    · rw[if_neg hx] at hz
      rcases abr.1 hk with rfl|hk
      · exact⟨n,by simpa using hx⟩
      · exact ih _ hz k hk
 rw[FE] at h;by_cases h1:(decide ((deep:Int)>16)||decide (n≥100))=true
 · rw[if_pos h1] at h;simp at h
 rw[if_neg h1] at h;by_cases h2:(BT t !=0)=true
 · rw[if_pos h2] at h
   simp only at h;rw[h] at h2;simp at h2
 rw[if_neg h2] at h;exact⟨by simpa using h2,key _ _ h⟩
theorem br6 {t:Ty} (h:BT t=0):(0≤t.kind∧t.kind≤17)∧um t=true∧(t.kind≠12→t.names=[])∧li t.names 0 t.names=true∧GM t=0:=by
 unfold BT at h;split at h
 · cases h
 split at h
 · cases h
 rename_i h1;split at h
 · cases h
 rename_i h2;split at h
 · rename_i h3
   simp only[ab4,aa9,not_or] at h1;simp only[ab4,abe,abb,aa9,not_or,not_and,bne_iff_ne,ne_eq,abf] at h2;refine⟨⟨by omega,by omega⟩,h2.1,fun hk=> ?_,h3,h⟩
   have:=h2.2 hk;exact ace aa1
 · cases h
theorem Vr {t:Ty} (h:GM t=0):(0≤t.len∧t.len≤4096)∧(0≤t.prec∧t.prec≤18)∧(0≤t.scale∧t.scale≤18):=by
 unfold GM at h;split at h
 · cases h
 rename_i h1;have hl:0≤t.len∧t.len≤4096:=by
   by_cases hk:(t.kind==16||t.kind==17)=true
   · rw[hk] at h1
     simp at h1;omega
   · rw[abh] at hk
     rw[hk] at h1;simp at h1;omega
 split at h
 · split at h
   · cases h
   · rename_i h2
     simp at h2;exact⟨hl,by omega,by omega⟩
 · split at h
   · cases h
   · rename_i h2
     simp at h2;exact⟨hl,by omega,by omega⟩
theorem dB:∀ (m:Nat) (t:Ty) (deep:Nat),EL deep t<1000→IQ m t
 |0,_,_,_=>trivial
 | m+1,t,deep,h=>by
  have key:∀ (r:List Ty) (n:Int),Dg (deep+1) n r<1000→∀ k∈r,EL (deep+1) k<1000∨n<0:=by
    intro r
    induction r with
    |nil=>intro n _ k hk;cases hk
    | cons y r ih=>
      intro n h k hk;rw[Du] at h;have hb:=GB _ y (deep+1) (abn _);split at h
      · omega
      · rename_i hc
        simp only[aa9] at hc;rcases abr.1 hk with rfl|hk
        · by_cases hn:n<0
          · exact .inr hn
          · left
            by_cases hl:EL (deep+1) k<1000
            · exact hl
            · exfalso
              have:∀ (r:List Ty) (n:Int),1000≤n→¬ Dg (deep+1) n r<1000:=by
               intro r
               induction r with
               |nil=>intro n hn h;rw[FZ] at h;omega
               | cons y r ih2=>
                intro n hn h;rw[Du] at h;have hb:=GB _ y (deep+1) (abn _);split at h
                · omega
                · exact ih2 _ aa1 h
              exact this r _ aa1 h
        · rcases ih _ h k hk with h1|h1
          · exact .inl h1
          · right;omega
  rw[He] at h;split at h
  · omega
  · rename_i hc
    simp only[ab4,aa9,not_or] at hc;split at h
    · omega
    · refine⟨by omega,by omega,fun k hk=>dB m k (deep+1) ?_⟩
      rcases key t.kids 1 h k hk with h1|h1
      · exact h1
      · omega
theorem xo:∀ (m:Nat) (t:Ty),IQ m t→FP m t
 |0,_,_=>trivial
 |m+1,t,⟨a,b,c⟩=>⟨by omega,by omega,fun k hk=>xo m k (c k hk)⟩
theorem bsw {t:Ty} (h:IP t=true):IQ t.size t∧FP t.size t:=by
 have h1:EL 1 t≤150:=by simpa[IP] using h
 have:=dB t.size t 1 aa1;exact⟨this,xo _ _ this⟩
theorem bex:∀ (m:Nat) (t:Ty) (deep:Nat) (n:Int),(Bk deep n t).2=0→Sn m t
 |0,_,_,_,_=>trivial
 |m+1,t,deep,n,h=>⟨(zw h).1,fun k hk=>let⟨n',h'⟩:=(zw h).2 k hk;bex m k (deep+1) n' h'⟩
theorem bsi {t:Ty} {v:Va} (h:CM t v=0) (hn:v.null=false) (hk:DP t.kind=true):v=leaf v.i v.n v.b∧v.b.length≤4096∧(BV t.kind=false→v.b=[])∧(t.kind≠9→v.n=0)∧d7 t v.i v.n=true:=by
 have hr:cl t v=0:=by
   rw[GQ] at h;split at h
   · exact h
   · rename_i c;simpa using c
 unfold cl at hr;rw[hn] at hr;simp only[aa8,if_false] at hr;split at hr
 · cases hr
 rename_i c1;split at hr
 · cases hr
 rename_i c2;simp only[ab4,abe,abb,aa9,not_or,not_and,abf,abh] at c1 c2;obtain⟨⟨n1,n2⟩,n3⟩:=c1;have hkids:v.kids=[]:=by
   cases hv:v.kids with
   |nil=>rfl
   | cons k r=>
     have:=n3 (by rw[hv,List.length_cons];omega)
     rw[hk] at this;cases this
 unfold Hw at n1;simp only[abe,abb,ab6,bne_eq_false_iff_eq,bne_iff_ne] at n1;refine⟨?_,by omega,fun ht=> ?_,fun h9=> ?_,n1.2⟩
 · obtain⟨nl,i,n,b,ks⟩:=v
   simp only[Va.null,Va.kids] at hn hkids;subst hn;subst hkids;rfl
 · apply ace
   by_cases c:(v.b.length:Int)>0
   · have:=n2 c
     rw[ht] at this;cases this
   · omega
 · rcases n1.1 with e|e
   · exact e
   · exact absurd e h9
theorem Vs {t:Ty} (h:BT t=0):t.kind=0∨t.kind=1∨t.kind=2∨t.kind=3∨t.kind=4∨t.kind=7∨t.kind=8∨t.kind=9∨t.kind=10∨t.kind=11∨t.kind=12∨t.kind=13∨t.kind=14∨t.kind=15∨t.kind=16∨t.kind=17:=by
 obtain⟨⟨h1,h2⟩,_⟩:=br6 h;have h5:t.kind≠5:=fun e=>by unfold BT at h;rw[e] at h;simp at h
 have h6:t.kind≠6:=fun e=>by unfold BT at h;rw[e] at h;simp at h
 omega
theorem bJ {t:Ty} {s:Sv} (ho:BT t=0) (h:oX t s) (j1:inI s.mn.i) (j2:inI s.mx.i) (j3:inI s.sum):cC t s:=by
 have hk:=Vs ho;have l1:=fun q=>bsi (h.has q).2.2.2.2.2.1 (h.has q).2.2.2.1 (h.has q).1
 have l2:=fun q=>bsi (h.has q).2.2.2.2.2.2 (h.has q).2.2.2.2.1 (h.has q).1
 have hb:s.mn.b.length≤5000∧s.mx.b.length≤5000:=by
   cases hh:s.has with
   | false=>
    obtain⟨e1,e2⟩:=h.no hh;rw[e1,e2];exact⟨by decide,by decide⟩
   |true=>exact⟨abo (l1 hh).2.1 aa1,abo (l2 hh).2.1 aa1⟩
 have hnl:s.has=true→AL t.kind≠0:=fun q=>by
   have:=(h.has q).1;rcases hk with e|e|e|e|e|e|e|e|e|e|e|e|e|e|e|e<;>rw[e] at this ⊢ <;>first| (exact absurd this aa4)|decide
 have plain:∀ q:s.has=true,BV t.kind=false→t.kind≠9→s.mn=leaf s.mn.i 0 []∧s.mx=leaf s.mx.i 0 []:=fun q ht h9=>by
   obtain⟨e1,_,b1,n1,_⟩:=l1 q;obtain⟨e2,_,b2,n2,_⟩:=l2 q;rw[b1 ht,n1 h9] at e1;rw[b2 ht,n2 h9] at e2;exact⟨e1,e2⟩
 refine⟨⟨h.cnt,j1,j2,j3,hb.1,hb.2⟩,h.no,h.Hx,fun e q=>plain q ?_ ?_,fun e q=> ?_,fun e=>⟨?_,?_⟩,fun e q=>plain q ?_ ?_,fun e=>⟨?_,fun q=>plain q ?_ ?_⟩,fun e=> ?_,fun e=>⟨?_,fun q=> ?_⟩,fun e=>⟨?_,?_⟩,fun q=> ?_⟩
 · rcases hk with k|k|k|k|k|k|k|k|k|k|k|k|k|k|k|k<;>rw[k] at e ⊢ <;>first| (exact absurd e aa4)|decide
 · rcases hk with k|k|k|k|k|k|k|k|k|k|k|k|k|k|k|k<;>rw[k] at e ⊢ <;>first| (exact absurd e aa4)|decide
 · obtain⟨e1,_,b1,n1,m1⟩:=l1 q
   obtain⟨e2,_,b2,n2,m2⟩:=l2 q;have k4:t.kind=7∨t.kind=16∨t.kind=17:=by
    rcases hk with k|k|k|k|k|k|k|k|k|k|k|k|k|k|k|k<;>rw[k] at e ⊢ <;>first| (exact absurd e aa4)|decide
   have h9:t.kind≠9:=aa1;have z:∀ i n:Int,d7 t i n=true→i=0:=fun i n hm=>by
    unfold d7 at hm;rcases k4 with k|k|k<;>(rw[k] at hm;simpa using hm)
   rw[z _ _ m1,n1 h9] at e1;rw[z _ _ m2,n2 h9] at e2;exact⟨e1,e2⟩
 · have k5:t.kind=0:=by
    rcases hk with k|k|k|k|k|k|k|k|k|k|k|k|k|k|k|k<;>rw[k] at e ⊢ <;>first| (exact absurd e aa4)|decide
   cases hh:s.has with
   |false=>rfl
   |true=>exact absurd k5 (h.has hh).2.1
 · have k5:t.kind=0:=by
    rcases hk with k|k|k|k|k|k|k|k|k|k|k|k|k|k|k|k<;>rw[k] at e ⊢ <;>first| (exact absurd e aa4)|decide
   exact h.bool k5
 · rcases hk with k|k|k|k|k|k|k|k|k|k|k|k|k|k|k|k<;>rw[k] at e ⊢ <;>first| (exact absurd e aa4)|decide
 · rcases hk with k|k|k|k|k|k|k|k|k|k|k|k|k|k|k|k<;>rw[k] at e ⊢ <;>first| (exact absurd e aa4)|decide
 · cases hs:s.AU with
   |false=>rfl
   | true=>
    have:=h.oF hs;rcases hk with k|k|k|k|k|k|k|k|k|k|k|k|k|k|k|k<;>rw[k] at e this<;>first| (exact absurd e aa4)| (exact absurd this aa4)
 · rcases hk with k|k|k|k|k|k|k|k|k|k|k|k|k|k|k|k<;>rw[k] at e ⊢ <;>first| (exact absurd e aa4)|decide
 · rcases hk with k|k|k|k|k|k|k|k|k|k|k|k|k|k|k|k<;>rw[k] at e ⊢ <;>first| (exact absurd e aa4)|decide
 · have k8:t.kind=8:=by
    rcases hk with k|k|k|k|k|k|k|k|k|k|k|k|k|k|k|k<;>rw[k] at e ⊢ <;>first| (exact absurd e aa4)|decide
   cases hh:s.has with
   |false=>rfl
   |true=>exact absurd k8 (h.has hh).2.2.1
 · cases hs:s.AU with
   |false=>rfl
   | true=>
    have:=h.oF hs;rcases hk with k|k|k|k|k|k|k|k|k|k|k|k|k|k|k|k<;>rw[k] at e this<;>first| (exact absurd e aa4)| (exact absurd this aa4)
 · have k9:t.kind=9:=by
    rcases hk with k|k|k|k|k|k|k|k|k|k|k|k|k|k|k|k<;>rw[k] at e ⊢ <;>first| (exact absurd e aa4)|decide
   have ht:BV t.kind=false:=by rw[k9];decide
   obtain⟨e1,_,b1,_,m1⟩:=l1 q;obtain⟨e2,_,b2,_,m2⟩:=l2 q;rw[b1 ht] at e1;rw[b2 ht] at e2;have z:∀ i n:Int,d7 t i n=true→0≤n∧n≤1000000000:=fun i n hm=>by
    unfold d7 at hm;rw[k9] at hm;simp[se] at hm;omega
   exact⟨e1,e2,z _ _ m1,z _ _ m2⟩
 · cases hh:s.has with
   |false=>rfl
   |true=>exact absurd e (hnl hh)
 · cases hs:s.AU with
   |false=>rfl
   | true=>
    have:=h.oF hs;rcases hk with k|k|k|k|k|k|k|k|k|k|k|k|k|k|k|k<;>rw[k] at e this<;>first| (exact absurd e aa4)| (exact absurd this aa4)
 · have hp:=hnl q
   have e1:=(l1 q).1;have e2:=(l2 q).1;obtain⟨_,_,_,_,_,r1,r2⟩:=h.has q;obtain⟨k,ns,ks,l,p,c⟩:=t;have b1:=bfm k ns ks l p c hp s.mn.i s.mn.n s.mn.b;have b2:=bfm k ns ks l p c hp s.mx.i s.mx.n s.mx.b;rw[← e1] at b1;rw[← e2] at b2;unfold DN at b1 b2;rw[r1] at b1;rw[r2] at b2;exact⟨b1.symm,b2.symm⟩
