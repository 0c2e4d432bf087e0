import Derived.Test.YtpnhljhciibfnaaGreatDoorTyB
set_option linter.unusedSimpArgs false
namespace Go.Proofs.YtpnhljhciibfnaaGreatDoor
open Go Go.Ev
set_option maxHeartbeats 4000000
theorem aoh (ns:List Tx):∀ (r:List Tx) (i:Nat) (had:List Tx),ns.drop i=r→(∀ s,had.contains s=Hd s (ns.take i))→ev had r=li ns i r
 | [],i,had,hr,hh=>by rw[ev,li]
 | s::r,i,had,hr,hh=>by
  obtain⟨h1,h2,h3⟩:=ej hr;rw[ev,li,hh s];have ih:=aoh ns r (i+1) (s::had) h3 (fun x=>by
   rw[List.contains_cons,hh x];unfold Hd;rw[List.take_add_one,h2,Option.toList_some,List.any_append,List.any_cons,List.any_nil,Bool.or_false,Bool.or_comm]
   congr 1
   rw[ab0];simp only[abm];exact eq_comm)
  rw[ih];have e1:s.isEmpty=(s==[]):=by cases s<;>rfl
  have e2:decide (100<s.length)=decide ((s.length:Int)>100):=by
   rw[ab0,aa9,aa9];omega
  rw[e1,e2,Bool.not_or]
theorem td (ns:List Tx) (hn:ns.length≤1000000):evL cfg TE 0 [.d (.sl (ns.map D.str))] []=some (.d (.bool (li ns 0 ns)),[]):=by
 refine ec (n:=1) ?_;have hx:cfg.ext TE=some v8:=rfl;simp only[Bn,hx,CC,Option.map_some,Option.bind_some,v8,we,if_pos hn];rw[aoh ns ns 0 [] rfl (fun s=>by simp[Hd])]
theorem tc (t:Ty) (hn:t.names.length≤1000000) (h5:(t.kind==5)=false) (h6:(t.kind==6)=false) (h0:decide (t.kind<0)=false) (h17:decide (t.kind>17)=false):evL cfg T1 0 [.d t.d] []=some (.d (.bool (BT t==0)),[]):=by
 have hl:=td t.names hn;rw[o_ao];unfold BT um GM;cases hq:li t.names 0 t.names with
 | true=>
  rw[hq] at hl;rcases bet t.kind with hk|hk|hk|hk|hk|hk|hk|⟨a,b,c,d,e,f,g⟩
  · simp only[hk] at hl ⊢
    simp(disch:=first|exact aa0|fail) only[go_sem,EU,Dw,hl,hk,bne]
    repeat' ((try rw[Aq])<;>split<;>rename_i hh<;>(try simp only[abh,abf,abb,abc] at hh)<;>(try simp(disch:=first|exact aa0|fail) only[*,go_sem,hl,hk,bne]))
    all_goals (try simp only[Prod.mk.injEq,V.d.injEq,D.bool.injEq,and_true,Option.some.injEq])<;>(try rw[ab0])<;>(try simp only[aa9,aa7,abm,aba,ne_eq,aca,ab4,abe,ab6,abb,abc,acb,acm,acf,aa8,aci,iff_false,false_iff,iff_true,true_iff,abp,ab7,reduceCtorEq] at *)<;>(try omega)
  · simp only[hk] at hl ⊢
    simp(disch:=first|exact aa0|fail) only[go_sem,EU,Dw,hl,hk,bne]
    repeat' ((try rw[Aq])<;>split<;>rename_i hh<;>(try simp only[abh,abf,abb,abc] at hh)<;>(try simp(disch:=first|exact aa0|fail) only[*,go_sem,hl,hk,bne]))
    all_goals (try simp only[Prod.mk.injEq,V.d.injEq,D.bool.injEq,and_true,Option.some.injEq])<;>(try rw[ab0])<;>(try simp only[aa9,aa7,abm,aba,ne_eq,aca,ab4,abe,ab6,abb,abc,acb,acm,acf,aa8,aci,iff_false,false_iff,iff_true,true_iff,abp,ab7,reduceCtorEq] at *)<;>(try omega)
  · simp only[hk] at hl ⊢
    simp(disch:=first|exact aa0|fail) only[go_sem,EU,Dw,hl,hk,bne]
    repeat' ((try rw[Aq])<;>split<;>rename_i hh<;>(try simp only[abh,abf,abb,abc] at hh)<;>(try simp(disch:=first|exact aa0|fail) only[*,go_sem,hl,hk,bne]))
    all_goals (try simp only[Prod.mk.injEq,V.d.injEq,D.bool.injEq,and_true,Option.some.injEq])<;>(try rw[ab0])<;>(try simp only[aa9,aa7,abm,aba,ne_eq,aca,ab4,abe,ab6,abb,abc,acb,acm,acf,aa8,aci,iff_false,false_iff,iff_true,true_iff,abp,ab7,reduceCtorEq] at *)<;>(try omega)
  · simp only[hk] at hl ⊢
    simp(disch:=first|exact aa0|fail) only[go_sem,EU,Dw,hl,hk,bne]
    repeat' ((try rw[Aq])<;>split<;>rename_i hh<;>(try simp only[abh,abf,abb,abc] at hh)<;>(try simp(disch:=first|exact aa0|fail) only[*,go_sem,hl,hk,bne]))
    all_goals (try simp only[Prod.mk.injEq,V.d.injEq,D.bool.injEq,and_true,Option.some.injEq])<;>(try rw[ab0])<;>(try simp only[aa9,aa7,abm,aba,ne_eq,aca,ab4,abe,ab6,abb,abc,acb,acm,acf,aa8,aci,iff_false,false_iff,iff_true,true_iff,abp,ab7,reduceCtorEq] at *)<;>(try omega)
  · simp only[hk] at hl ⊢
    simp(disch:=first|exact aa0|fail) only[go_sem,EU,Dw,hl,hk,bne]
    repeat' ((try rw[Aq])<;>split<;>rename_i hh<;>(try simp only[abh,abf,abb,abc] at hh)<;>(try simp(disch:=first|exact aa0|fail) only[*,go_sem,hl,hk,bne]))
    all_goals (try simp only[Prod.mk.injEq,V.d.injEq,D.bool.injEq,and_true,Option.some.injEq])<;>(try rw[ab0])<;>(try simp only[aa9,aa7,abm,aba,ne_eq,aca,ab4,abe,ab6,abb,abc,acb,acm,acf,aa8,aci,iff_false,false_iff,iff_true,true_iff,abp,ab7,reduceCtorEq] at *)<;>(try omega)
  · simp only[hk] at hl ⊢
    simp(disch:=first|exact aa0|fail) only[go_sem,EU,Dw,hl,hk,bne]
    repeat' ((try rw[Aq])<;>split<;>rename_i hh<;>(try simp only[abh,abf,abb,abc] at hh)<;>(try simp(disch:=first|exact aa0|fail) only[*,go_sem,hl,hk,bne]))
    all_goals (try simp only[Prod.mk.injEq,V.d.injEq,D.bool.injEq,and_true,Option.some.injEq])<;>(try rw[ab0])<;>(try simp only[aa9,aa7,abm,aba,ne_eq,aca,ab4,abe,ab6,abb,abc,acb,acm,acf,aa8,aci,iff_false,false_iff,iff_true,true_iff,abp,ab7,reduceCtorEq] at *)<;>(try omega)
  · simp only[hk] at hl ⊢
    simp(disch:=first|exact aa0|fail) only[go_sem,EU,Dw,hl,hk,bne]
    repeat' ((try rw[Aq])<;>split<;>rename_i hh<;>(try simp only[abh,abf,abb,abc] at hh)<;>(try simp(disch:=first|exact aa0|fail) only[*,go_sem,hl,hk,bne]))
    all_goals (try simp only[Prod.mk.injEq,V.d.injEq,D.bool.injEq,and_true,Option.some.injEq])<;>(try rw[ab0])<;>(try simp only[aa9,aa7,abm,aba,ne_eq,aca,ab4,abe,ab6,abb,abc,acb,acm,acf,aa8,aci,iff_false,false_iff,iff_true,true_iff,abp,ab7,reduceCtorEq] at *)<;>(try omega)
  · simp(disch:=first|exact aa0|fail) only[go_sem,EU,Dw,hl,a,b,c,d,e,f,g,bne]
    repeat' ((try rw[Aq])<;>split<;>rename_i hh<;>(try simp only[abh,abf,abb,abc] at hh)<;>(try simp(disch:=first|exact aa0|fail) only[*,go_sem,hl,a,b,c,d,e,f,g,bne]))
    all_goals (try simp only[Prod.mk.injEq,V.d.injEq,D.bool.injEq,and_true,Option.some.injEq])<;>(try rw[ab0])<;>(try simp only[aa9,aa7,abm,aba,ne_eq,aca,ab4,abe,ab6,abb,abc,acb,acm,acf,aa8,aci,iff_false,false_iff,iff_true,true_iff,abp,ab7,reduceCtorEq] at *)<;>(try omega)
 | false=>
  rw[hq] at hl;rcases bet t.kind with hk|hk|hk|hk|hk|hk|hk|⟨a,b,c,d,e,f,g⟩
  · simp only[hk] at hl ⊢
    simp(disch:=first|exact aa0|fail) only[go_sem,EU,Dw,hl,hk,bne]
    repeat' ((try rw[Aq])<;>split<;>rename_i hh<;>(try simp only[abh,abf,abb,abc] at hh)<;>(try simp(disch:=first|exact aa0|fail) only[*,go_sem,hl,hk,bne]))
    all_goals (try simp only[Prod.mk.injEq,V.d.injEq,D.bool.injEq,and_true,Option.some.injEq])<;>(try rw[ab0])<;>(try simp only[aa9,aa7,abm,aba,ne_eq,aca,ab4,abe,ab6,abb,abc,acb,acm,acf,aa8,aci,iff_false,false_iff,iff_true,true_iff,abp,ab7,reduceCtorEq] at *)<;>(try omega)
  · simp only[hk] at hl ⊢
    simp(disch:=first|exact aa0|fail) only[go_sem,EU,Dw,hl,hk,bne]
    repeat' ((try rw[Aq])<;>split<;>rename_i hh<;>(try simp only[abh,abf,abb,abc] at hh)<;>(try simp(disch:=first|exact aa0|fail) only[*,go_sem,hl,hk,bne]))
    all_goals (try simp only[Prod.mk.injEq,V.d.injEq,D.bool.injEq,and_true,Option.some.injEq])<;>(try rw[ab0])<;>(try simp only[aa9,aa7,abm,aba,ne_eq,aca,ab4,abe,ab6,abb,abc,acb,acm,acf,aa8,aci,iff_false,false_iff,iff_true,true_iff,abp,ab7,reduceCtorEq] at *)<;>(try omega)
  · simp only[hk] at hl ⊢
    simp(disch:=first|exact aa0|fail) only[go_sem,EU,Dw,hl,hk,bne]
    repeat' ((try rw[Aq])<;>split<;>rename_i hh<;>(try simp only[abh,abf,abb,abc] at hh)<;>(try simp(disch:=first|exact aa0|fail) only[*,go_sem,hl,hk,bne]))
    all_goals (try simp only[Prod.mk.injEq,V.d.injEq,D.bool.injEq,and_true,Option.some.injEq])<;>(try rw[ab0])<;>(try simp only[aa9,aa7,abm,aba,ne_eq,aca,ab4,abe,ab6,abb,abc,acb,acm,acf,aa8,aci,iff_false,false_iff,iff_true,true_iff,abp,ab7,reduceCtorEq] at *)<;>(try omega)
  · simp only[hk] at hl ⊢
    simp(disch:=first|exact aa0|fail) only[go_sem,EU,Dw,hl,hk,bne]
    repeat' ((try rw[Aq])<;>split<;>rename_i hh<;>(try simp only[abh,abf,abb,abc] at hh)<;>(try simp(disch:=first|exact aa0|fail) only[*,go_sem,hl,hk,bne]))
    all_goals (try simp only[Prod.mk.injEq,V.d.injEq,D.bool.injEq,and_true,Option.some.injEq])<;>(try rw[ab0])<;>(try simp only[aa9,aa7,abm,aba,ne_eq,aca,ab4,abe,ab6,abb,abc,acb,acm,acf,aa8,aci,iff_false,false_iff,iff_true,true_iff,abp,ab7,reduceCtorEq] at *)<;>(try omega)
  · simp only[hk] at hl ⊢
    simp(disch:=first|exact aa0|fail) only[go_sem,EU,Dw,hl,hk,bne]
    repeat' ((try rw[Aq])<;>split<;>rename_i hh<;>(try simp only[abh,abf,abb,abc] at hh)<;>(try simp(disch:=first|exact aa0|fail) only[*,go_sem,hl,hk,bne]))
    all_goals (try simp only[Prod.mk.injEq,V.d.injEq,D.bool.injEq,and_true,Option.some.injEq])<;>(try rw[ab0])<;>(try simp only[aa9,aa7,abm,aba,ne_eq,aca,ab4,abe,ab6,abb,abc,acb,acm,acf,aa8,aci,iff_false,false_iff,iff_true,true_iff,abp,ab7,reduceCtorEq] at *)<;>(try omega)
  · simp only[hk] at hl ⊢
    simp(disch:=first|exact aa0|fail) only[go_sem,EU,Dw,hl,hk,bne]
    repeat' ((try rw[Aq])<;>split<;>rename_i hh<;>(try simp only[abh,abf,abb,abc] at hh)<;>(try simp(disch:=first|exact aa0|fail) only[*,go_sem,hl,hk,bne]))
    all_goals (try simp only[Prod.mk.injEq,V.d.injEq,D.bool.injEq,and_true,Option.some.injEq])<;>(try rw[ab0])<;>(try simp only[aa9,aa7,abm,aba,ne_eq,aca,ab4,abe,ab6,abb,abc,acb,acm,acf,aa8,aci,iff_false,false_iff,iff_true,true_iff,abp,ab7,reduceCtorEq] at *)<;>(try omega)
  · simp only[hk] at hl ⊢
    simp(disch:=first|exact aa0|fail) only[go_sem,EU,Dw,hl,hk,bne]
    repeat' ((try rw[Aq])<;>split<;>rename_i hh<;>(try simp only[abh,abf,abb,abc] at hh)<;>(try simp(disch:=first|exact aa0|fail) only[*,go_sem,hl,hk,bne]))
    all_goals (try simp only[Prod.mk.injEq,V.d.injEq,D.bool.injEq,and_true,Option.some.injEq])<;>(try rw[ab0])<;>(try simp only[aa9,aa7,abm,aba,ne_eq,aca,ab4,abe,ab6,abb,abc,acb,acm,acf,aa8,aci,iff_false,false_iff,iff_true,true_iff,abp,ab7,reduceCtorEq] at *)<;>(try omega)
  · simp(disch:=first|exact aa0|fail) only[go_sem,EU,Dw,hl,a,b,c,d,e,f,g,bne]
    repeat' ((try rw[Aq])<;>split<;>rename_i hh<;>(try simp only[abh,abf,abb,abc] at hh)<;>(try simp(disch:=first|exact aa0|fail) only[*,go_sem,hl,a,b,c,d,e,f,g,bne]))
    all_goals (try simp only[Prod.mk.injEq,V.d.injEq,D.bool.injEq,and_true,Option.some.injEq])<;>(try rw[ab0])<;>(try simp only[aa9,aa7,abm,aba,ne_eq,aca,ab4,abe,ab6,abb,abc,acb,acm,acf,aa8,aci,iff_false,false_iff,iff_true,true_iff,abp,ab7,reduceCtorEq] at *)<;>(try omega)
