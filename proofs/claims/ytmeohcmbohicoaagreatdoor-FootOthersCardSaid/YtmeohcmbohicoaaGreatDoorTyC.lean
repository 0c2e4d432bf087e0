import Derived.Test.YtmeohcmbohicoaaGreatDoorTyB
namespace Go.Proofs.YtmeohcmbohicoaaGreatDoor
open Go Go.Ev
set_option maxHeartbeats 4000000
theorem ae5 (ns:List Tx):∀ (r:List Tx) (i:Nat) (had:List Tx),ns.drop i=r→(∀ s,had.contains s=hasN s (ns.take i))→c8 had r=fg ns i r
 | [],i,had,hr,hh=>by rw[c8,fg]
 | s::r,i,had,hr,hh=>by
  obtain⟨h1,h2,h3⟩:=cc hr;rw[c8,fg,hh s];have ih:=ae5 ns r (i+1) (s::had) h3 (fun x=>by
   rw[List.contains_cons,hh x];unfold hasN;rw[List.take_add_one,h2,Option.toList_some,List.any_append,List.any_cons,List.any_nil,Bool.or_false,Bool.or_comm]
   congr 1
   rw[xy];simp only[xj];exact eq_comm)
  rw[ih];have e1:s.isEmpty=(s==[]):=by cases s<;>rfl
  have e2:decide (100<s.length)=decide ((s.length:Int)>100):=by
   rw[xy,we,we];omega
  rw[e1,e2,Bool.not_or]
theorem oe (ns:List Tx) (hn:ns.length≤1000000):evL cfg n_df 0 [.d (.sl (ns.map D.str))] []=some (.d (.bool (fg ns 0 ns)),[]):=by
 refine az (n:=1) ?_;have hx:cfg.ext n_df=some qu:=rfl;simp only[evFn,hx,allD,Option.map_some,Option.bind_some,qu,l9,if_pos hn];rw[ae5 ns ns 0 [] rfl (fun s=>by simp[hasN])]
theorem od (t:Ty) (hn:t.names.length≤1000000) (h5:(t.kind==5)=false) (h6:(t.kind==6)=false) (h0:decide (t.kind<0)=false) (h17:decide (t.kind>17)=false):evL cfg n_aj 0 [.d t.d] []=some (.d (.bool (ownM t==0)),[]):=by
 have hl:=oe t.names hn;rw[o_aj];unfold ownM afa restT;cases hq:fg t.names 0 t.names with
 | true=>
  rw[hq] at hl;rcases aup t.kind with hk|hk|hk|hk|hk|hk|hk|⟨a,b,c,d,e,f,g⟩
  · simp only[hk] at hl ⊢
    simp(disch:=first|exact vm|fail) only[go_sem,X_aj,c_aj,hl,hk,bne]
    repeat' ((try rw[goQ_b])<;>split<;>rename_i hh<;>(try simp only[wk,wg,v7,v9] at hh)<;>(try simp(disch:=first|exact vm|fail) only[*,go_sem,hl,hk,bne]))
    all_goals (try simp only[Prod.mk.injEq,V.d.injEq,D.bool.injEq,and_true,Option.some.injEq])<;>(try rw[xy])<;>(try simp only[we,wd,xj,wq,ne_eq,xm,xg,wb,xf,v7,v9,xn,xz,xp,vv,xu,iff_false,false_iff,iff_true,true_iff,xa,xq,reduceCtorEq] at *)<;>(try omega)
  · simp only[hk] at hl ⊢
    simp(disch:=first|exact vm|fail) only[go_sem,X_aj,c_aj,hl,hk,bne]
    repeat' ((try rw[goQ_b])<;>split<;>rename_i hh<;>(try simp only[wk,wg,v7,v9] at hh)<;>(try simp(disch:=first|exact vm|fail) only[*,go_sem,hl,hk,bne]))
    all_goals (try simp only[Prod.mk.injEq,V.d.injEq,D.bool.injEq,and_true,Option.some.injEq])<;>(try rw[xy])<;>(try simp only[we,wd,xj,wq,ne_eq,xm,xg,wb,xf,v7,v9,xn,xz,xp,vv,xu,iff_false,false_iff,iff_true,true_iff,xa,xq,reduceCtorEq] at *)<;>(try omega)
  · simp only[hk] at hl ⊢
    simp(disch:=first|exact vm|fail) only[go_sem,X_aj,c_aj,hl,hk,bne]
    repeat' ((try rw[goQ_b])<;>split<;>rename_i hh<;>(try simp only[wk,wg,v7,v9] at hh)<;>(try simp(disch:=first|exact vm|fail) only[*,go_sem,hl,hk,bne]))
    all_goals (try simp only[Prod.mk.injEq,V.d.injEq,D.bool.injEq,and_true,Option.some.injEq])<;>(try rw[xy])<;>(try simp only[we,wd,xj,wq,ne_eq,xm,xg,wb,xf,v7,v9,xn,xz,xp,vv,xu,iff_false,false_iff,iff_true,true_iff,xa,xq,reduceCtorEq] at *)<;>(try omega)
  · simp only[hk] at hl ⊢
    simp(disch:=first|exact vm|fail) only[go_sem,X_aj,c_aj,hl,hk,bne]
    repeat' ((try rw[goQ_b])<;>split<;>rename_i hh<;>(try simp only[wk,wg,v7,v9] at hh)<;>(try simp(disch:=first|exact vm|fail) only[*,go_sem,hl,hk,bne]))
    all_goals (try simp only[Prod.mk.injEq,V.d.injEq,D.bool.injEq,and_true,Option.some.injEq])<;>(try rw[xy])<;>(try simp only[we,wd,xj,wq,ne_eq,xm,xg,wb,xf,v7,v9,xn,xz,xp,vv,xu,iff_false,false_iff,iff_true,true_iff,xa,xq,reduceCtorEq] at *)<;>(try omega)
  · simp only[hk] at hl ⊢
    simp(disch:=first|exact vm|fail) only[go_sem,X_aj,c_aj,hl,hk,bne]
    repeat' ((try rw[goQ_b])<;>split<;>rename_i hh<;>(try simp only[wk,wg,v7,v9] at hh)<;>(try simp(disch:=first|exact vm|fail) only[*,go_sem,hl,hk,bne]))
    all_goals (try simp only[Prod.mk.injEq,V.d.injEq,D.bool.injEq,and_true,Option.some.injEq])<;>(try rw[xy])<;>(try simp only[we,wd,xj,wq,ne_eq,xm,xg,wb,xf,v7,v9,xn,xz,xp,vv,xu,iff_false,false_iff,iff_true,true_iff,xa,xq,reduceCtorEq] at *)<;>(try omega)
  · simp only[hk] at hl ⊢
    simp(disch:=first|exact vm|fail) only[go_sem,X_aj,c_aj,hl,hk,bne]
    repeat' ((try rw[goQ_b])<;>split<;>rename_i hh<;>(try simp only[wk,wg,v7,v9] at hh)<;>(try simp(disch:=first|exact vm|fail) only[*,go_sem,hl,hk,bne]))
    all_goals (try simp only[Prod.mk.injEq,V.d.injEq,D.bool.injEq,and_true,Option.some.injEq])<;>(try rw[xy])<;>(try simp only[we,wd,xj,wq,ne_eq,xm,xg,wb,xf,v7,v9,xn,xz,xp,vv,xu,iff_false,false_iff,iff_true,true_iff,xa,xq,reduceCtorEq] at *)<;>(try omega)
  · simp only[hk] at hl ⊢
    simp(disch:=first|exact vm|fail) only[go_sem,X_aj,c_aj,hl,hk,bne]
    repeat' ((try rw[goQ_b])<;>split<;>rename_i hh<;>(try simp only[wk,wg,v7,v9] at hh)<;>(try simp(disch:=first|exact vm|fail) only[*,go_sem,hl,hk,bne]))
    all_goals (try simp only[Prod.mk.injEq,V.d.injEq,D.bool.injEq,and_true,Option.some.injEq])<;>(try rw[xy])<;>(try simp only[we,wd,xj,wq,ne_eq,xm,xg,wb,xf,v7,v9,xn,xz,xp,vv,xu,iff_false,false_iff,iff_true,true_iff,xa,xq,reduceCtorEq] at *)<;>(try omega)
  · simp(disch:=first|exact vm|fail) only[go_sem,X_aj,c_aj,hl,a,b,c,d,e,f,g,bne]
    repeat' ((try rw[goQ_b])<;>split<;>rename_i hh<;>(try simp only[wk,wg,v7,v9] at hh)<;>(try simp(disch:=first|exact vm|fail) only[*,go_sem,hl,a,b,c,d,e,f,g,bne]))
    all_goals (try simp only[Prod.mk.injEq,V.d.injEq,D.bool.injEq,and_true,Option.some.injEq])<;>(try rw[xy])<;>(try simp only[we,wd,xj,wq,ne_eq,xm,xg,wb,xf,v7,v9,xn,xz,xp,vv,xu,iff_false,false_iff,iff_true,true_iff,xa,xq,reduceCtorEq] at *)<;>(try omega)
 | false=>
  rw[hq] at hl;rcases aup t.kind with hk|hk|hk|hk|hk|hk|hk|⟨a,b,c,d,e,f,g⟩
  · simp only[hk] at hl ⊢
    simp(disch:=first|exact vm|fail) only[go_sem,X_aj,c_aj,hl,hk,bne]
    repeat' ((try rw[goQ_b])<;>split<;>rename_i hh<;>(try simp only[wk,wg,v7,v9] at hh)<;>(try simp(disch:=first|exact vm|fail) only[*,go_sem,hl,hk,bne]))
    all_goals (try simp only[Prod.mk.injEq,V.d.injEq,D.bool.injEq,and_true,Option.some.injEq])<;>(try rw[xy])<;>(try simp only[we,wd,xj,wq,ne_eq,xm,xg,wb,xf,v7,v9,xn,xz,xp,vv,xu,iff_false,false_iff,iff_true,true_iff,xa,xq,reduceCtorEq] at *)<;>(try omega)
  · simp only[hk] at hl ⊢
    simp(disch:=first|exact vm|fail) only[go_sem,X_aj,c_aj,hl,hk,bne]
    repeat' ((try rw[goQ_b])<;>split<;>rename_i hh<;>(try simp only[wk,wg,v7,v9] at hh)<;>(try simp(disch:=first|exact vm|fail) only[*,go_sem,hl,hk,bne]))
    all_goals (try simp only[Prod.mk.injEq,V.d.injEq,D.bool.injEq,and_true,Option.some.injEq])<;>(try rw[xy])<;>(try simp only[we,wd,xj,wq,ne_eq,xm,xg,wb,xf,v7,v9,xn,xz,xp,vv,xu,iff_false,false_iff,iff_true,true_iff,xa,xq,reduceCtorEq] at *)<;>(try omega)
  · simp only[hk] at hl ⊢
    simp(disch:=first|exact vm|fail) only[go_sem,X_aj,c_aj,hl,hk,bne]
    repeat' ((try rw[goQ_b])<;>split<;>rename_i hh<;>(try simp only[wk,wg,v7,v9] at hh)<;>(try simp(disch:=first|exact vm|fail) only[*,go_sem,hl,hk,bne]))
    all_goals (try simp only[Prod.mk.injEq,V.d.injEq,D.bool.injEq,and_true,Option.some.injEq])<;>(try rw[xy])<;>(try simp only[we,wd,xj,wq,ne_eq,xm,xg,wb,xf,v7,v9,xn,xz,xp,vv,xu,iff_false,false_iff,iff_true,true_iff,xa,xq,reduceCtorEq] at *)<;>(try omega)
  · simp only[hk] at hl ⊢
    simp(disch:=first|exact vm|fail) only[go_sem,X_aj,c_aj,hl,hk,bne]
    repeat' ((try rw[goQ_b])<;>split<;>rename_i hh<;>(try simp only[wk,wg,v7,v9] at hh)<;>(try simp(disch:=first|exact vm|fail) only[*,go_sem,hl,hk,bne]))
    all_goals (try simp only[Prod.mk.injEq,V.d.injEq,D.bool.injEq,and_true,Option.some.injEq])<;>(try rw[xy])<;>(try simp only[we,wd,xj,wq,ne_eq,xm,xg,wb,xf,v7,v9,xn,xz,xp,vv,xu,iff_false,false_iff,iff_true,true_iff,xa,xq,reduceCtorEq] at *)<;>(try omega)
  · simp only[hk] at hl ⊢
    simp(disch:=first|exact vm|fail) only[go_sem,X_aj,c_aj,hl,hk,bne]
    repeat' ((try rw[goQ_b])<;>split<;>rename_i hh<;>(try simp only[wk,wg,v7,v9] at hh)<;>(try simp(disch:=first|exact vm|fail) only[*,go_sem,hl,hk,bne]))
    all_goals (try simp only[Prod.mk.injEq,V.d.injEq,D.bool.injEq,and_true,Option.some.injEq])<;>(try rw[xy])<;>(try simp only[we,wd,xj,wq,ne_eq,xm,xg,wb,xf,v7,v9,xn,xz,xp,vv,xu,iff_false,false_iff,iff_true,true_iff,xa,xq,reduceCtorEq] at *)<;>(try omega)
  · simp only[hk] at hl ⊢
    simp(disch:=first|exact vm|fail) only[go_sem,X_aj,c_aj,hl,hk,bne]
    repeat' ((try rw[goQ_b])<;>split<;>rename_i hh<;>(try simp only[wk,wg,v7,v9] at hh)<;>(try simp(disch:=first|exact vm|fail) only[*,go_sem,hl,hk,bne]))
    all_goals (try simp only[Prod.mk.injEq,V.d.injEq,D.bool.injEq,and_true,Option.some.injEq])<;>(try rw[xy])<;>(try simp only[we,wd,xj,wq,ne_eq,xm,xg,wb,xf,v7,v9,xn,xz,xp,vv,xu,iff_false,false_iff,iff_true,true_iff,xa,xq,reduceCtorEq] at *)<;>(try omega)
  · simp only[hk] at hl ⊢
    simp(disch:=first|exact vm|fail) only[go_sem,X_aj,c_aj,hl,hk,bne]
    repeat' ((try rw[goQ_b])<;>split<;>rename_i hh<;>(try simp only[wk,wg,v7,v9] at hh)<;>(try simp(disch:=first|exact vm|fail) only[*,go_sem,hl,hk,bne]))
    all_goals (try simp only[Prod.mk.injEq,V.d.injEq,D.bool.injEq,and_true,Option.some.injEq])<;>(try rw[xy])<;>(try simp only[we,wd,xj,wq,ne_eq,xm,xg,wb,xf,v7,v9,xn,xz,xp,vv,xu,iff_false,false_iff,iff_true,true_iff,xa,xq,reduceCtorEq] at *)<;>(try omega)
  · simp(disch:=first|exact vm|fail) only[go_sem,X_aj,c_aj,hl,a,b,c,d,e,f,g,bne]
    repeat' ((try rw[goQ_b])<;>split<;>rename_i hh<;>(try simp only[wk,wg,v7,v9] at hh)<;>(try simp(disch:=first|exact vm|fail) only[*,go_sem,hl,a,b,c,d,e,f,g,bne]))
    all_goals (try simp only[Prod.mk.injEq,V.d.injEq,D.bool.injEq,and_true,Option.some.injEq])<;>(try rw[xy])<;>(try simp only[we,wd,xj,wq,ne_eq,xm,xg,wb,xf,v7,v9,xn,xz,xp,vv,xu,iff_false,false_iff,iff_true,true_iff,xa,xq,reduceCtorEq] at *)<;>(try omega)
