import Derived.Test.YtkdiccgfbfbjlaaGreatTyB
set_option linter.unusedSectionVars false
namespace Go.Proofs.YtkdiccgfbfbjlaaGreat
open Go Go.Ev
variable [Sh]
set_option maxHeartbeats 4000000
theorem akc (ns:List Tx):∀ (r:List Tx) (i:Nat) (had:List Tx),ns.drop i=r→(∀ s,had.contains s=HK s (ns.take i))→c8 had r=DK ns i r
 | [],i,had,hr,hh=>by rw[c8,DK]
 | s::r,i,had,hr,hh=>by
  obtain⟨h1,h2,h3⟩:=ba hr;rw[c8,DK,hh s];have ih:=akc ns r (i+1) (s::had) h3 (fun x=>by
   rw[List.contains_cons,hh x];unfold HK;rw[List.take_add_one,h2,Option.toList_some,List.any_append,List.any_cons,List.any_nil,Bool.or_false,Bool.or_comm]
   congr 1
   rw[adg];simp only[acg];exact eq_comm)
  rw[ih];have e1:s.isEmpty=(s==[]):=by cases s<;>rfl
  have e2:decide (100<s.length)=decide ((s.length:Int)>100):=by
   rw[adg,ab4,ab4];omega
  rw[e1,e2,Bool.not_or]
theorem q7 (ns:List Tx) (hn:ns.length≤1000000):evL cfg Qx 0 [.d (.sl (ns.map D.str))] []=some (.d (.bool (DK ns 0 ns)),[]):=by
 refine ak (n:=1) ?_;have hx:cfg.ext Qx=some uu:=rfl;simp only[BU,hx,B6,Option.map_some,Option.bind_some,uu,oq,if_pos hn];rw[akc ns ns 0 [] rfl (fun s=>by simp[HK])]
theorem qz (t:Ty) (hn:t.names.length≤1000000) (h5:(t.kind==5)=false) (h6:(t.kind==6)=false) (h0:decide (t.kind<0)=false) (h17:decide (t.kind>17)=false):evL cfg Rm 0 [.d t.d] []=some (.d (.bool (B1 t==0)),[]):=by
 have hl:=q7 t.names hn;rw[o_ap];unfold B1 Fa Hg;cases hq:DK t.names 0 t.names with
 | true=>
  rw[hq] at hl;rcases a9m t.kind with hk|hk|hk|hk|hk|hk|hk|⟨a,b,c,d,e,f,g⟩
  · simp only[hk] at hl ⊢
    simp(disch:=first|exact abt|fail) only[go_sem,EO,D3,hl,hk,bne]
    repeat' ((try rw[A7])<;>split<;>rename_i hh<;>(try simp only[ack,acj,acd,ace] at hh)<;>(try simp(disch:=first|exact abt|fail) only[*,go_sem,hl,hk,bne]))
    all_goals (try simp only[Prod.mk.injEq,V.d.injEq,D.bool.injEq,and_true,Option.some.injEq])<;>(try rw[adg])<;>(try simp only[ab4,ab3,acg,ab6,ne_eq,ac3,acu,aca,ac5,acd,ace,ac9,adj,adb,acb,adf,iff_false,false_iff,iff_true,true_iff,ac2,ac8,reduceCtorEq] at *)<;>(try omega)
  · simp only[hk] at hl ⊢
    simp(disch:=first|exact abt|fail) only[go_sem,EO,D3,hl,hk,bne]
    repeat' ((try rw[A7])<;>split<;>rename_i hh<;>(try simp only[ack,acj,acd,ace] at hh)<;>(try simp(disch:=first|exact abt|fail) only[*,go_sem,hl,hk,bne]))
    all_goals (try simp only[Prod.mk.injEq,V.d.injEq,D.bool.injEq,and_true,Option.some.injEq])<;>(try rw[adg])<;>(try simp only[ab4,ab3,acg,ab6,ne_eq,ac3,acu,aca,ac5,acd,ace,ac9,adj,adb,acb,adf,iff_false,false_iff,iff_true,true_iff,ac2,ac8,reduceCtorEq] at *)<;>(try omega)
  · simp only[hk] at hl ⊢
    simp(disch:=first|exact abt|fail) only[go_sem,EO,D3,hl,hk,bne]
    repeat' ((try rw[A7])<;>split<;>rename_i hh<;>(try simp only[ack,acj,acd,ace] at hh)<;>(try simp(disch:=first|exact abt|fail) only[*,go_sem,hl,hk,bne]))
    all_goals (try simp only[Prod.mk.injEq,V.d.injEq,D.bool.injEq,and_true,Option.some.injEq])<;>(try rw[adg])<;>(try simp only[ab4,ab3,acg,ab6,ne_eq,ac3,acu,aca,ac5,acd,ace,ac9,adj,adb,acb,adf,iff_false,false_iff,iff_true,true_iff,ac2,ac8,reduceCtorEq] at *)<;>(try omega)
  · simp only[hk] at hl ⊢
    simp(disch:=first|exact abt|fail) only[go_sem,EO,D3,hl,hk,bne]
    repeat' ((try rw[A7])<;>split<;>rename_i hh<;>(try simp only[ack,acj,acd,ace] at hh)<;>(try simp(disch:=first|exact abt|fail) only[*,go_sem,hl,hk,bne]))
    all_goals (try simp only[Prod.mk.injEq,V.d.injEq,D.bool.injEq,and_true,Option.some.injEq])<;>(try rw[adg])<;>(try simp only[ab4,ab3,acg,ab6,ne_eq,ac3,acu,aca,ac5,acd,ace,ac9,adj,adb,acb,adf,iff_false,false_iff,iff_true,true_iff,ac2,ac8,reduceCtorEq] at *)<;>(try omega)
  · simp only[hk] at hl ⊢
    simp(disch:=first|exact abt|fail) only[go_sem,EO,D3,hl,hk,bne]
    repeat' ((try rw[A7])<;>split<;>rename_i hh<;>(try simp only[ack,acj,acd,ace] at hh)<;>(try simp(disch:=first|exact abt|fail) only[*,go_sem,hl,hk,bne]))
    all_goals (try simp only[Prod.mk.injEq,V.d.injEq,D.bool.injEq,and_true,Option.some.injEq])<;>(try rw[adg])<;>(try simp only[ab4,ab3,acg,ab6,ne_eq,ac3,acu,aca,ac5,acd,ace,ac9,adj,adb,acb,adf,iff_false,false_iff,iff_true,true_iff,ac2,ac8,reduceCtorEq] at *)<;>(try omega)
  · simp only[hk] at hl ⊢
    simp(disch:=first|exact abt|fail) only[go_sem,EO,D3,hl,hk,bne]
    repeat' ((try rw[A7])<;>split<;>rename_i hh<;>(try simp only[ack,acj,acd,ace] at hh)<;>(try simp(disch:=first|exact abt|fail) only[*,go_sem,hl,hk,bne]))
    all_goals (try simp only[Prod.mk.injEq,V.d.injEq,D.bool.injEq,and_true,Option.some.injEq])<;>(try rw[adg])<;>(try simp only[ab4,ab3,acg,ab6,ne_eq,ac3,acu,aca,ac5,acd,ace,ac9,adj,adb,acb,adf,iff_false,false_iff,iff_true,true_iff,ac2,ac8,reduceCtorEq] at *)<;>(try omega)
  · simp only[hk] at hl ⊢
    simp(disch:=first|exact abt|fail) only[go_sem,EO,D3,hl,hk,bne]
    repeat' ((try rw[A7])<;>split<;>rename_i hh<;>(try simp only[ack,acj,acd,ace] at hh)<;>(try simp(disch:=first|exact abt|fail) only[*,go_sem,hl,hk,bne]))
    all_goals (try simp only[Prod.mk.injEq,V.d.injEq,D.bool.injEq,and_true,Option.some.injEq])<;>(try rw[adg])<;>(try simp only[ab4,ab3,acg,ab6,ne_eq,ac3,acu,aca,ac5,acd,ace,ac9,adj,adb,acb,adf,iff_false,false_iff,iff_true,true_iff,ac2,ac8,reduceCtorEq] at *)<;>(try omega)
  · simp(disch:=first|exact abt|fail) only[go_sem,EO,D3,hl,a,b,c,d,e,f,g,bne]
    repeat' ((try rw[A7])<;>split<;>rename_i hh<;>(try simp only[ack,acj,acd,ace] at hh)<;>(try simp(disch:=first|exact abt|fail) only[*,go_sem,hl,a,b,c,d,e,f,g,bne]))
    all_goals (try simp only[Prod.mk.injEq,V.d.injEq,D.bool.injEq,and_true,Option.some.injEq])<;>(try rw[adg])<;>(try simp only[ab4,ab3,acg,ab6,ne_eq,ac3,acu,aca,ac5,acd,ace,ac9,adj,adb,acb,adf,iff_false,false_iff,iff_true,true_iff,ac2,ac8,reduceCtorEq] at *)<;>(try omega)
 | false=>
  rw[hq] at hl;rcases a9m t.kind with hk|hk|hk|hk|hk|hk|hk|⟨a,b,c,d,e,f,g⟩
  · simp only[hk] at hl ⊢
    simp(disch:=first|exact abt|fail) only[go_sem,EO,D3,hl,hk,bne]
    repeat' ((try rw[A7])<;>split<;>rename_i hh<;>(try simp only[ack,acj,acd,ace] at hh)<;>(try simp(disch:=first|exact abt|fail) only[*,go_sem,hl,hk,bne]))
    all_goals (try simp only[Prod.mk.injEq,V.d.injEq,D.bool.injEq,and_true,Option.some.injEq])<;>(try rw[adg])<;>(try simp only[ab4,ab3,acg,ab6,ne_eq,ac3,acu,aca,ac5,acd,ace,ac9,adj,adb,acb,adf,iff_false,false_iff,iff_true,true_iff,ac2,ac8,reduceCtorEq] at *)<;>(try omega)
  · simp only[hk] at hl ⊢
    simp(disch:=first|exact abt|fail) only[go_sem,EO,D3,hl,hk,bne]
    repeat' ((try rw[A7])<;>split<;>rename_i hh<;>(try simp only[ack,acj,acd,ace] at hh)<;>(try simp(disch:=first|exact abt|fail) only[*,go_sem,hl,hk,bne]))
    all_goals (try simp only[Prod.mk.injEq,V.d.injEq,D.bool.injEq,and_true,Option.some.injEq])<;>(try rw[adg])<;>(try simp only[ab4,ab3,acg,ab6,ne_eq,ac3,acu,aca,ac5,acd,ace,ac9,adj,adb,acb,adf,iff_false,false_iff,iff_true,true_iff,ac2,ac8,reduceCtorEq] at *)<;>(try omega)
  · simp only[hk] at hl ⊢
    simp(disch:=first|exact abt|fail) only[go_sem,EO,D3,hl,hk,bne]
    repeat' ((try rw[A7])<;>split<;>rename_i hh<;>(try simp only[ack,acj,acd,ace] at hh)<;>(try simp(disch:=first|exact abt|fail) only[*,go_sem,hl,hk,bne]))
    all_goals (try simp only[Prod.mk.injEq,V.d.injEq,D.bool.injEq,and_true,Option.some.injEq])<;>(try rw[adg])<;>(try simp only[ab4,ab3,acg,ab6,ne_eq,ac3,acu,aca,ac5,acd,ace,ac9,adj,adb,acb,adf,iff_false,false_iff,iff_true,true_iff,ac2,ac8,reduceCtorEq] at *)<;>(try omega)
  · simp only[hk] at hl ⊢
    simp(disch:=first|exact abt|fail) only[go_sem,EO,D3,hl,hk,bne]
    repeat' ((try rw[A7])<;>split<;>rename_i hh<;>(try simp only[ack,acj,acd,ace] at hh)<;>(try simp(disch:=first|exact abt|fail) only[*,go_sem,hl,hk,bne]))
    all_goals (try simp only[Prod.mk.injEq,V.d.injEq,D.bool.injEq,and_true,Option.some.injEq])<;>(try rw[adg])<;>(try simp only[ab4,ab3,acg,ab6,ne_eq,ac3,acu,aca,ac5,acd,ace,ac9,adj,adb,acb,adf,iff_false,false_iff,iff_true,true_iff,ac2,ac8,reduceCtorEq] at *)<;>(try omega)
  · simp only[hk] at hl ⊢
    simp(disch:=first|exact abt|fail) only[go_sem,EO,D3,hl,hk,bne]
    repeat' ((try rw[A7])<;>split<;>rename_i hh<;>(try simp only[ack,acj,acd,ace] at hh)<;>(try simp(disch:=first|exact abt|fail) only[*,go_sem,hl,hk,bne]))
    all_goals (try simp only[Prod.mk.injEq,V.d.injEq,D.bool.injEq,and_true,Option.some.injEq])<;>(try rw[adg])<;>(try simp only[ab4,ab3,acg,ab6,ne_eq,ac3,acu,aca,ac5,acd,ace,ac9,adj,adb,acb,adf,iff_false,false_iff,iff_true,true_iff,ac2,ac8,reduceCtorEq] at *)<;>(try omega)
  · simp only[hk] at hl ⊢
    simp(disch:=first|exact abt|fail) only[go_sem,EO,D3,hl,hk,bne]
    repeat' ((try rw[A7])<;>split<;>rename_i hh<;>(try simp only[ack,acj,acd,ace] at hh)<;>(try simp(disch:=first|exact abt|fail) only[*,go_sem,hl,hk,bne]))
    all_goals (try simp only[Prod.mk.injEq,V.d.injEq,D.bool.injEq,and_true,Option.some.injEq])<;>(try rw[adg])<;>(try simp only[ab4,ab3,acg,ab6,ne_eq,ac3,acu,aca,ac5,acd,ace,ac9,adj,adb,acb,adf,iff_false,false_iff,iff_true,true_iff,ac2,ac8,reduceCtorEq] at *)<;>(try omega)
  · simp only[hk] at hl ⊢
    simp(disch:=first|exact abt|fail) only[go_sem,EO,D3,hl,hk,bne]
    repeat' ((try rw[A7])<;>split<;>rename_i hh<;>(try simp only[ack,acj,acd,ace] at hh)<;>(try simp(disch:=first|exact abt|fail) only[*,go_sem,hl,hk,bne]))
    all_goals (try simp only[Prod.mk.injEq,V.d.injEq,D.bool.injEq,and_true,Option.some.injEq])<;>(try rw[adg])<;>(try simp only[ab4,ab3,acg,ab6,ne_eq,ac3,acu,aca,ac5,acd,ace,ac9,adj,adb,acb,adf,iff_false,false_iff,iff_true,true_iff,ac2,ac8,reduceCtorEq] at *)<;>(try omega)
  · simp(disch:=first|exact abt|fail) only[go_sem,EO,D3,hl,a,b,c,d,e,f,g,bne]
    repeat' ((try rw[A7])<;>split<;>rename_i hh<;>(try simp only[ack,acj,acd,ace] at hh)<;>(try simp(disch:=first|exact abt|fail) only[*,go_sem,hl,a,b,c,d,e,f,g,bne]))
    all_goals (try simp only[Prod.mk.injEq,V.d.injEq,D.bool.injEq,and_true,Option.some.injEq])<;>(try rw[adg])<;>(try simp only[ab4,ab3,acg,ab6,ne_eq,ac3,acu,aca,ac5,acd,ace,ac9,adj,adb,acb,adf,iff_false,false_iff,iff_true,true_iff,ac2,ac8,reduceCtorEq] at *)<;>(try omega)
end Go.Proofs.YtkdiccgfbfbjlaaGreat
namespace Go.Proofs.YtkdiccgfbfbjlaaGreat
open Go Go.Ev
variable [Sh]
set_option maxHeartbeats 4000000
def Zok (d:Nat) (Z:List (Cel×V)):Prop:=∀ p∈Z,p.1.d<d∧∃ x,p.2= .d x
section
variable {d:Nat} {Z:List (Cel×V)} (h:Zok d Z)
include h
theorem lkZ (k o:Nat) (r:List (Cel×V)):lk (Z++r) ⟨d,k,o⟩=lk r ⟨d,k,o⟩:=by
 induction Z with
 |nil=>rfl
 | cons p Z ih=>
  obtain⟨h1,_⟩:=h p abw;obtain⟨c,v⟩:=p;rw[List.cons_append,lk,if_neg (fun e=>by rw[e] at h1;exact absurd h1 (Nat.lt_irrefl _))]
  exact ih fun q hq=>h q (by simp[hq])
theorem stZ (k o:Nat) (v:V) (r:List (Cel×V)):st (Z++r) ⟨d,k,o⟩ v=Z++st r ⟨d,k,o⟩ v:=by
 induction Z with
 |nil=>rfl
 | cons p Z ih=>
  obtain⟨h1,_⟩:=h p abw;obtain⟨c,u⟩:=p;rw[List.cons_append,st,if_neg (fun e=>by rw[e] at h1;exact absurd h1 (Nat.lt_irrefl _)),ih fun q hq=>h q (by simp[hq])]
  rfl
theorem xj (e:Nat) (r:List (Cel×V)):BG e (Z++r)=Z++BG e r:=by
 induction Z with
 |nil=>rfl
 | cons p Z ih=>
  obtain⟨_,x,h2⟩:=h p abw;obtain⟨c,u⟩:=p;simp only at h2;subst h2;rw[List.cons_append,BG,ih fun q hq=>h q (by simp[hq])]
  rfl
theorem freeZ (k:Nat) (r:List (Cel×V)):Bv d k (Z++r)=Z++Bv d k r:=by
 induction Z with
 |nil=>rfl
 | cons p Z ih=>
  obtain⟨h1,x,h2⟩:=h p abw;obtain⟨c,u⟩:=p;simp only at h1 h2;subst h2;rw[List.cons_append,Bv,if_neg (fun e=>by omega),ih fun q hq=>h q (by simp[hq])]
  rfl
theorem a9l (r:List (Cel×V)):Ak d (Z++r)=Z++Ak d r:=by
 induction Z with
 |nil=>rfl
 | cons p Z ih=>
  obtain⟨h1,x,h2⟩:=h p abw;obtain⟨c,u⟩:=p;simp only at h1 h2;subst h2;rw[List.cons_append,Ak,if_pos h1,ih fun q hq=>h q (by simp[hq])]
  rfl
theorem cutZ (r:List (Cel×V)):Ao d (Z++r)=Z++Ao d r:=by
 induction Z with
 |nil=>rfl
 | cons p Z ih=>
  obtain⟨h1,x,h2⟩:=h p abw;obtain⟨c,u⟩:=p;simp only at h1;rw[List.cons_append,Ao,if_pos abu,ih fun q hq=>h q (by simp[hq])]
  rfl
theorem allZ' (e:Nat) (r:List (Cel×V)):(Z++r).all (fun p=>p.2.A4 e)=r.all (fun p=>p.2.A4 e):=by
 induction Z with
 |nil=>rfl
 | cons p Z ih=>
  obtain⟨_,x,h2⟩:=h p abw;obtain⟨c,u⟩:=p;simp only at h2;subst h2;rw[List.cons_append,List.all_cons,ih fun q hq=>h q (by simp[hq])]
  rfl
end
def wM (x0 x1 x2 x3 x4 x5:D) (n:Int) (Z:List (Cel×V)):List (Cel×V):=
 [(⟨0,1,0⟩,.d x0),(⟨0,1,1⟩,.d x1),(⟨0,1,2⟩,.d x2),(⟨0,1,3⟩,.d x3),(⟨0,1,4⟩,.d x4),(⟨0,1,5⟩,.d x5),(⟨0,3,0⟩,.d (.int .i64 (n)))]++Z
def FL (d k:Nat) (t:Ty):List (Cel×V):=[(⟨d,k,0⟩,.d (.int .i64 t.kind)),(⟨d,k,1⟩,.d (.sl (t.names.map D.str))),(⟨d,k,2⟩,.d (.sl (t.kids.map Ty.d))),(⟨d,k,3⟩,.d (.int .i64 t.len)),(⟨d,k,4⟩,.d (.int .i64 t.prec)),(⟨d,k,5⟩,.d (.int .i64 t.scale))]
def EC (d k:Nat):Option Ty→List (Cel×V)
 |none=>[]
 |some t=>FL d k t
theorem ale (d k:Nat):EC d k none=[]:=rfl
theorem we (d k:Nat) (o:Option Ty):Bv d k (EC d k o)=[]:=by
 cases o with
 |none=>rfl
 |some t=>simp only[EC,FL,bb3,bl6,and_self,if_true]
theorem dz (e d k:Nat) (o:Option Ty):BG e (EC d k o)=EC d k o:=by cases o<;>rfl
theorem mf (d k:Nat) (o:Option Ty):Ak d (EC d k o)=[]:=by
 cases o with
 |none=>rfl
 |some t=>simp only[EC,FL,Ak,Nat.lt_irrefl,if_false]
theorem WH {d:Nat} {Z:List (Cel×V)} (h:Zok d Z) (t k:Ty):Zok (d+1) (Z++(FL d 3 t++FL d 8 k)):=by
 intro p hp;rcases acz.1 hp with hp|hp
 · obtain⟨h1,h2⟩:=h p hp
   exact⟨by omega,h2⟩
 · simp only[FL,List.cons_append,List.nil_append,ach,adk,or_false] at hp
   rcases hp with rfl|rfl|rfl|rfl|rfl|rfl|rfl|rfl|rfl|rfl|rfl|rfl<;>exact⟨Nat.lt_succ_self _,_,rfl⟩
def H5:Nat→Ty→Prop
 |0,_=>True
 |m+1,t=>t.names.length≤1000000∧t.kids.length≤1000000∧∀ k∈t.kids,H5 m k
theorem aaw (x0 x1 x2 x3 x4 x5:D) (t:Ty) (D':Nat) (hD:1≤D') (Z:List (Cel×V)) (hZ:Zok D' Z) (deep:Nat) (hd:deep≤16) (hk:t.kids.length≤1000000)
  (IH:∀ k∈t.kids,∀ (n:Int) (Z:List (Cel×V)),Zok (D'+1) Z→0≤n→n≤100→evL cfg Hs (D'+1) [.d k.d,.d (.int .i64 (((deep+1:Nat):Int))),.ref 0 3 0] (wM x0 x1 x2 x3 x4 x5 n Z)=some (.d (.int .i64 ((BP (deep+1) n k).2)),wM x0 x1 x2 x3 x4 x5 (BP (deep+1) n k).1 Z)):
  ∀ (r:List Ty) (i:Nat) (n:Int) (o:Option Ty),t.kids.drop i=r→i≤t.kids.length→0≤n→n≤100→
  go (fx cfg D' [.t 6]) [.c (.loop ard),.b 1,.c (.seq amd .ret)] ⟨[(1,.d (.int .i64 ((deep:Int)))),(2,.ref 0 3 0),(48,.d (.sl (t.kids.map Ty.d))),(49,.d (.int .i64 ((t.kids.length:Int)))),(50,.d (.int .i64 ((i:Int))))],wM x0 x1 x2 x3 x4 x5 n (Z++(FL D' 3 t++EC D' 8 o))⟩=some (.d (.int .i64 ((Cq (deep+1) n r).2)),wM x0 x1 x2 x3 x4 x5 (Cq (deep+1) n r).1 Z)
 | [],i,n,o,hr,hi,h1,h2=>by
  have:=aq hr;have:i=t.kids.length:=abu;subst this;have d_a:decide ((t.kids.length:Int)<t.kids.length)=false:=by simp<;>omega
  have z3:=xj hZ;have z4:=a9l hZ;have n0:(0=D')=False:=by simp;omega
  have n1:(D'=0)=False:=by simp;omega
  have n2:(0<D')=True:=by simp;omega
  have hS:=fun e=>dz e D' 8 o
  have hL:=mf D' 8 o;rw[go_loop,n8];generalize EC D' 8 o=T at *;simp only[wM,FL,List.cons_append,List.nil_append];have n3:(D'<D')=False:=by simp
  simp(disch:=first|exact abt|fail) only[go_sem,d_a,z3,z4,n0,n1,n2,n3,hS,hL,List.append_nil]
 | k::r,i,n,o,hr,hi,h1,h2=>by
  obtain⟨hlt,hc,hr'⟩:=ba hr;have hb:=zz _ k (deep+1) n (ab5 _) h2;have hf:=IH k (List.mem_of_getElem? hc) n (Z++(FL D' 3 t++FL D' 8 k)) (WH hZ t k) h1 h2;have d_a:decide ((i:Int)<t.kids.length)=true:=by simp<;>omega
  have e1:(i:Int)+1=((i+1:Nat):Int):=abu;have e2:(deep:Int)+1=((deep+1:Nat):Int):=abu;have z1:=lkZ hZ;have z2:=stZ hZ;have z3:=xj hZ;have z4:=a9l hZ;have z5:=freeZ hZ;have z6:=cutZ hZ;have z7:=allZ' hZ;have n0:(0=D')=False:=by simp;omega
  have n1:(D'=0)=False:=by simp;omega
  have n2:(0<D')=True:=by simp;omega
  have n3:(D'<D')=False:=by simp
  have n4:(D'≤D')=True:=by simp
  have n5:(0≤D')=True:=by simp
  have hS:=fun e=>dz e D' 8 o
  have hL:=mf D' 8 o;have hF:=we D' 8 o;rw[go_loop,ft];generalize hq:BP (deep+1) n k=q at *;generalize EC D' 8 o=T at *;rcases ab2 (q.2 !=0) with x|x
  · simp only[wM,FL,List.cons_append,List.nil_append] at hf ⊢
    simp(disch:=first|exact abt|fail) only[go_sem,d_a,hc,e2,hf,x,z1,z2,z3,z4,z5,z6,z7,n0,n1,n2,n3,n4,n5,hS,hL,hF,List.append_nil,List.all_cons,List.all_nil]
  · have ih:=aaw x0 x1 x2 x3 x4 x5 t D' hD Z hZ deep hd hk IH r (i+1) q.1 (some k) hr' abu abu hb.2
    rw[if_neg (by rw[x];simp)]
    refine Eq.trans ?_ ih;simp only[wM,FL,EC,List.cons_append,List.nil_append] at hf ⊢;simp(disch:=first|exact abt|fail) only[go_sem,d_a,hc,e2,hf,x,z1,z2,z3,z4,z5,z6,z7,n0,n1,n2,n3,n4,n5,hS,hL,hF,List.append_nil,List.all_cons,List.all_nil,e1]
theorem Xb (t:Ty) (h5:(t.kind==5)=false) (h6:(t.kind==6)=false) (h0:decide (t.kind<0)=false) (h17:decide (t.kind>17)=false):(B1 t==0)=true∧B1 t=0∨(B1 t==0)=false∧B1 t=1:=by
 unfold B1 Hg;rw[h5,h6,h0,h17];simp only[Bool.or_self,acb,if_false]
 repeat' split
 all_goals simp
theorem ar0 (x0 x1 x2 x3 x4 x5:D):∀ (m:Nat) (t:Ty) (D' deep:Nat) (n:Int) (Z:List (Cel×V)),t.size≤m→H5 m t→1≤D'→Zok D' Z→deep≤17→0≤n→n≤100→
  evL cfg Hs D' [.d t.d,.d (.int .i64 ((deep:Int))),.ref 0 3 0] (wM x0 x1 x2 x3 x4 x5 n Z)=some (.d (.int .i64 ((BP deep n t).2)),wM x0 x1 x2 x3 x4 x5 (BP deep n t).1 Z)
 |0,t,_,_,_,_,h,_,_,_,_,_,_=>by have:=t.size_pos;omega
 | m+1,t,D',deep,n,Z,h,hs,hD,hZ,hd,h1,h2=>by
  obtain⟨s1,s2,s3⟩:=hs;rw[e_bq D' _ _ rfl rfl,ph];have z1:=lkZ hZ;have z2:=stZ hZ;have z3:=xj hZ;have z4:=a9l hZ;have y1:=fun k o=>(congrArg (lk · (⟨D',k,o⟩:Cel)) (List.append_nil Z)).symm.trans (lkZ hZ k o [])
  have y2:=fun k o v=>(congrArg (st · (⟨D',k,o⟩:Cel) v) (List.append_nil Z)).symm.trans (stZ hZ k o v [])
  have y3:=fun e=>(congrArg (BG e) (List.append_nil Z)).symm.trans ((xj hZ e []).trans (List.append_nil Z))
  have y4:=(congrArg (Ak D') (List.append_nil Z)).symm.trans ((a9l hZ []).trans (List.append_nil Z));simp only[lk,st] at y1 y2;have n0:(0=D')=False:=by simp;omega
  have n1:(D'=0)=False:=by simp;omega
  have n2:(0<D')=True:=by simp;omega
  have n3:(D'<D')=False:=by simp
  rcases ab2 (decide ((deep:Int)>16)) with d_a|d_a<;>have p_a:=d_a<;>simp only[ab4,ab3,acg,ab6,ne_eq] at p_a
  · simp(disch:=first|exact abt|fail) only[go_sem,IK,Gd,wM,y1,y2,y3,y4,z1,z2,z3,z4,n0,n1,n2,n3,d_a,List.cons_append,List.nil_append,List.append_nil,Bool.true_or]
  · rcases ab2 (decide (n≥100)) with d_b|d_b<;>have p_b:=d_b<;>simp only[ab4,ab3,acg,ab6,ne_eq] at p_b
    · simp(disch:=first|exact abt|fail) only[go_sem,IK,Gd,wM,y1,y2,y3,y4,z1,z2,z3,z4,n0,n1,n2,n3,d_a,d_b,List.cons_append,List.nil_append,List.append_nil,Bool.or_true]
    · rw[d_a,d_b,Bool.or_self,if_neg abw]
      rcases ab2 (t.kind==5) with h5|h5
      · have ho:B1 t=5:=by unfold B1;rw[h5,Bool.true_or,if_pos rfl]
        rw[ho,if_pos abx];simp(disch:=first|exact abt|fail) only[go_sem,IK,Gd,wM,y1,y2,y3,y4,z1,z2,z3,z4,n0,n1,n2,n3,d_a,d_b,List.cons_append,List.nil_append,List.append_nil,Bool.or_false,Bool.or_true,Bool.true_or,h5]
      rcases ab2 (t.kind==6) with h6|h6
      · have ho:B1 t=5:=by unfold B1;rw[h6,Bool.or_true,if_pos rfl]
        rw[ho,if_pos abx];simp(disch:=first|exact abt|fail) only[go_sem,IK,Gd,wM,y1,y2,y3,y4,z1,z2,z3,z4,n0,n1,n2,n3,d_a,d_b,List.cons_append,List.nil_append,List.append_nil,Bool.or_false,Bool.or_true,Bool.true_or,h5,h6]
      rcases ab2 (decide (t.kind<0)) with h0|h0
      · have ho:B1 t=1:=by unfold B1;rw[h5,h6,h0,Bool.true_or,Bool.or_self,if_neg abw,if_pos rfl]
        rw[ho,if_pos abx];simp(disch:=first|exact abt|fail) only[go_sem,IK,Gd,wM,y1,y2,y3,y4,z1,z2,z3,z4,n0,n1,n2,n3,d_a,d_b,List.cons_append,List.nil_append,List.append_nil,Bool.or_false,Bool.or_true,Bool.true_or,h5,h6,h0]
      rcases ab2 (decide (t.kind>17)) with h17|h17
      · have ho:B1 t=1:=by unfold B1;rw[h5,h6,h17,Bool.or_true,Bool.or_self,if_neg abw,if_pos rfl]
        rw[ho,if_pos abx];simp(disch:=first|exact abt|fail) only[go_sem,IK,Gd,wM,y1,y2,y3,y4,z1,z2,z3,z4,n0,n1,n2,n3,d_a,d_b,List.cons_append,List.nil_append,List.append_nil,Bool.or_false,Bool.or_true,Bool.true_or,h5,h6,h0,h17]
      have hr:=qz t s1 h5 h6 h0 h17;rcases Xb t h5 h6 h0 h17 with⟨g1,g2⟩|⟨g1,g2⟩
      · rw[g1] at hr
        rw[g2,if_neg abx];have IH:=fun(k:Ty) (hk:k∈t.kids) (n:Int) (Z:List (Cel×V)) (hz:Zok (D'+1) Z) (q1:0≤n) (q2:n≤100)=>ar0 x0 x1 x2 x3 x4 x5 m k (D'+1) (deep+1) n Z (by have:=Ty.A8 hk;omega) (s3 k hk) abu hz abu q1 q2
        have hl:=aaw x0 x1 x2 x3 x4 x5 t D' hD Z hZ deep abu s2 IH t.kids 0 (n+1) none rfl (aco _) abu abu;rw[ale] at hl;simp only[wM,FL,List.cons_append,List.nil_append,List.append_nil] at hl ⊢;simp(disch:=first|exact abt|fail) only[go_sem,IK,Gd,wM,y1,y2,y3,y4,z1,z2,z3,z4,n0,n1,n2,n3,d_a,d_b,List.cons_append,List.nil_append,List.append_nil,Bool.or_false,Bool.or_true,Bool.true_or,h5,h6,h0,h17,hr]
        exact hl
      · rw[g1] at hr
        rw[g2,if_pos abx];simp(disch:=first|exact abt|fail) only[go_sem,IK,Gd,wM,y1,y2,y3,y4,z1,z2,z3,z4,n0,n1,n2,n3,d_a,d_b,List.cons_append,List.nil_append,List.append_nil,Bool.or_false,Bool.or_true,Bool.true_or,h5,h6,h0,h17,hr]
theorem q8 (t:Ty) (hs:H5 t.size t):evL cfg Q4 0 [.d t.d] []=some (.d (.int .i64 ((BP 1 0 t).2)),[]):=by
 rw[o_ew];have h:=ar0 (.int .i64 t.kind) (.sl (t.names.map D.str)) (.sl (t.kids.map Ty.d)) (.int .i64 t.len) (.int .i64 t.prec) (.int .i64 t.scale) t.size t 1 1 0 [] (ab5 _) hs abu (fun p hp=>by simp at hp) abu abu abu
 simp only[wM,List.append_nil] at h;have h:evL cfg Hs (0+1) [.d t.d,.d (.int .i64 (1)),.ref 0 3 0] _=_:=h;simp(disch:=first|exact abt|fail) only[go_sem,X_ew,YY,h]
