import Derived.Test.YtlcnfnjdelmkdaaGreatDoorTyB
namespace Go.Proofs.YtlcnfnjdelmkdaaGreatDoor
open Go Go.Ev
set_option maxHeartbeats 4000000
theorem am0 (ns:List Tx):∀ (r:List Tx) (i:Nat) (had:List Tx),ns.drop i=r→(∀ s,had.contains s=hasN s (ns.take i))→dr had r=j7 ns i r
 | [],i,had,hr,hh=>by rw[dr,j7]
 | s::r,i,had,hr,hh=>by
  obtain⟨h1,h2,h3⟩:=cc hr;rw[dr,j7,hh s];have ih:=am0 ns r (i+1) (s::had) h3 (fun x=>by
   rw[List.contains_cons,hh x];unfold hasN;rw[List.take_add_one,h2,Option.toList_some,List.any_append,List.any_cons,List.any_nil,Bool.or_false,Bool.or_comm]
   congr 1
   rw[aal];simp only[aaa];exact eq_comm)
  rw[ih];have e1:s.isEmpty=(s==[]):=by cases s<;>rfl
  have e2:decide (100<s.length)=decide ((s.length:Int)>100):=by
   rw[aal,zm,zm];omega
  rw[e1,e2,Bool.not_or]
theorem rh (ns:List Tx) (hn:ns.length≤1000000):evL cfg n_fy 0 [.d (.sl (ns.map D.str))] []=some (.d (.bool (j7 ns 0 ns)),[]):=by
 refine en (n:=1) ?_;have hx:cfg.ext n_fy=some tw:=rfl;simp only[evFn,hx,allD,Option.map_some,Option.bind_some,tw,ue,if_pos hn];rw[am0 ns ns 0 [] rfl (fun s=>by simp[hasN])]
theorem rf (t:Ty) (hn:t.names.length≤1000000) (h5:(t.kind==5)=false) (h6:(t.kind==6)=false) (h0:decide (t.kind<0)=false) (h17:decide (t.kind>17)=false):evL cfg n_ap 0 [.d t.d] []=some (.d (.bool (ownM t==0)),[]):=by
 have hl:=rh t.names hn;rw[o_ap];unfold ownM sg restT;cases hq:j7 t.names 0 t.names with
 | true=>
  rw[hq] at hl;rcases bep t.kind with hk|hk|hk|hk|hk|hk|hk|⟨a,b,c,d,e,f,g⟩
  · simp only[hk] at hl ⊢
    simp(disch:=first|exact y7|fail) only[go_sem,X_ap,c_ap,hl,hk,bne]
    repeat' ((try rw[goQ_b])<;>split<;>rename_i hh<;>(try simp only[zu,zq,zk,zn] at hh)<;>(try simp(disch:=first|exact y7|fail) only[*,go_sem,hl,hk,bne]))
    all_goals (try simp only[Prod.mk.injEq,V.d.injEq,D.bool.injEq,and_true,Option.some.injEq])<;>(try rw[aal])<;>(try simp only[zm,zl,aaa,zp,ne_eq,aav,aan,zw,aaq,zk,zn,aat,aaz,aaw,zh,aay,iff_false,false_iff,iff_true,true_iff,zz,aao,reduceCtorEq] at *)<;>(try omega)
  · simp only[hk] at hl ⊢
    simp(disch:=first|exact y7|fail) only[go_sem,X_ap,c_ap,hl,hk,bne]
    repeat' ((try rw[goQ_b])<;>split<;>rename_i hh<;>(try simp only[zu,zq,zk,zn] at hh)<;>(try simp(disch:=first|exact y7|fail) only[*,go_sem,hl,hk,bne]))
    all_goals (try simp only[Prod.mk.injEq,V.d.injEq,D.bool.injEq,and_true,Option.some.injEq])<;>(try rw[aal])<;>(try simp only[zm,zl,aaa,zp,ne_eq,aav,aan,zw,aaq,zk,zn,aat,aaz,aaw,zh,aay,iff_false,false_iff,iff_true,true_iff,zz,aao,reduceCtorEq] at *)<;>(try omega)
  · simp only[hk] at hl ⊢
    simp(disch:=first|exact y7|fail) only[go_sem,X_ap,c_ap,hl,hk,bne]
    repeat' ((try rw[goQ_b])<;>split<;>rename_i hh<;>(try simp only[zu,zq,zk,zn] at hh)<;>(try simp(disch:=first|exact y7|fail) only[*,go_sem,hl,hk,bne]))
    all_goals (try simp only[Prod.mk.injEq,V.d.injEq,D.bool.injEq,and_true,Option.some.injEq])<;>(try rw[aal])<;>(try simp only[zm,zl,aaa,zp,ne_eq,aav,aan,zw,aaq,zk,zn,aat,aaz,aaw,zh,aay,iff_false,false_iff,iff_true,true_iff,zz,aao,reduceCtorEq] at *)<;>(try omega)
  · simp only[hk] at hl ⊢
    simp(disch:=first|exact y7|fail) only[go_sem,X_ap,c_ap,hl,hk,bne]
    repeat' ((try rw[goQ_b])<;>split<;>rename_i hh<;>(try simp only[zu,zq,zk,zn] at hh)<;>(try simp(disch:=first|exact y7|fail) only[*,go_sem,hl,hk,bne]))
    all_goals (try simp only[Prod.mk.injEq,V.d.injEq,D.bool.injEq,and_true,Option.some.injEq])<;>(try rw[aal])<;>(try simp only[zm,zl,aaa,zp,ne_eq,aav,aan,zw,aaq,zk,zn,aat,aaz,aaw,zh,aay,iff_false,false_iff,iff_true,true_iff,zz,aao,reduceCtorEq] at *)<;>(try omega)
  · simp only[hk] at hl ⊢
    simp(disch:=first|exact y7|fail) only[go_sem,X_ap,c_ap,hl,hk,bne]
    repeat' ((try rw[goQ_b])<;>split<;>rename_i hh<;>(try simp only[zu,zq,zk,zn] at hh)<;>(try simp(disch:=first|exact y7|fail) only[*,go_sem,hl,hk,bne]))
    all_goals (try simp only[Prod.mk.injEq,V.d.injEq,D.bool.injEq,and_true,Option.some.injEq])<;>(try rw[aal])<;>(try simp only[zm,zl,aaa,zp,ne_eq,aav,aan,zw,aaq,zk,zn,aat,aaz,aaw,zh,aay,iff_false,false_iff,iff_true,true_iff,zz,aao,reduceCtorEq] at *)<;>(try omega)
  · simp only[hk] at hl ⊢
    simp(disch:=first|exact y7|fail) only[go_sem,X_ap,c_ap,hl,hk,bne]
    repeat' ((try rw[goQ_b])<;>split<;>rename_i hh<;>(try simp only[zu,zq,zk,zn] at hh)<;>(try simp(disch:=first|exact y7|fail) only[*,go_sem,hl,hk,bne]))
    all_goals (try simp only[Prod.mk.injEq,V.d.injEq,D.bool.injEq,and_true,Option.some.injEq])<;>(try rw[aal])<;>(try simp only[zm,zl,aaa,zp,ne_eq,aav,aan,zw,aaq,zk,zn,aat,aaz,aaw,zh,aay,iff_false,false_iff,iff_true,true_iff,zz,aao,reduceCtorEq] at *)<;>(try omega)
  · simp only[hk] at hl ⊢
    simp(disch:=first|exact y7|fail) only[go_sem,X_ap,c_ap,hl,hk,bne]
    repeat' ((try rw[goQ_b])<;>split<;>rename_i hh<;>(try simp only[zu,zq,zk,zn] at hh)<;>(try simp(disch:=first|exact y7|fail) only[*,go_sem,hl,hk,bne]))
    all_goals (try simp only[Prod.mk.injEq,V.d.injEq,D.bool.injEq,and_true,Option.some.injEq])<;>(try rw[aal])<;>(try simp only[zm,zl,aaa,zp,ne_eq,aav,aan,zw,aaq,zk,zn,aat,aaz,aaw,zh,aay,iff_false,false_iff,iff_true,true_iff,zz,aao,reduceCtorEq] at *)<;>(try omega)
  · simp(disch:=first|exact y7|fail) only[go_sem,X_ap,c_ap,hl,a,b,c,d,e,f,g,bne]
    repeat' ((try rw[goQ_b])<;>split<;>rename_i hh<;>(try simp only[zu,zq,zk,zn] at hh)<;>(try simp(disch:=first|exact y7|fail) only[*,go_sem,hl,a,b,c,d,e,f,g,bne]))
    all_goals (try simp only[Prod.mk.injEq,V.d.injEq,D.bool.injEq,and_true,Option.some.injEq])<;>(try rw[aal])<;>(try simp only[zm,zl,aaa,zp,ne_eq,aav,aan,zw,aaq,zk,zn,aat,aaz,aaw,zh,aay,iff_false,false_iff,iff_true,true_iff,zz,aao,reduceCtorEq] at *)<;>(try omega)
 | false=>
  rw[hq] at hl;rcases bep t.kind with hk|hk|hk|hk|hk|hk|hk|⟨a,b,c,d,e,f,g⟩
  · simp only[hk] at hl ⊢
    simp(disch:=first|exact y7|fail) only[go_sem,X_ap,c_ap,hl,hk,bne]
    repeat' ((try rw[goQ_b])<;>split<;>rename_i hh<;>(try simp only[zu,zq,zk,zn] at hh)<;>(try simp(disch:=first|exact y7|fail) only[*,go_sem,hl,hk,bne]))
    all_goals (try simp only[Prod.mk.injEq,V.d.injEq,D.bool.injEq,and_true,Option.some.injEq])<;>(try rw[aal])<;>(try simp only[zm,zl,aaa,zp,ne_eq,aav,aan,zw,aaq,zk,zn,aat,aaz,aaw,zh,aay,iff_false,false_iff,iff_true,true_iff,zz,aao,reduceCtorEq] at *)<;>(try omega)
  · simp only[hk] at hl ⊢
    simp(disch:=first|exact y7|fail) only[go_sem,X_ap,c_ap,hl,hk,bne]
    repeat' ((try rw[goQ_b])<;>split<;>rename_i hh<;>(try simp only[zu,zq,zk,zn] at hh)<;>(try simp(disch:=first|exact y7|fail) only[*,go_sem,hl,hk,bne]))
    all_goals (try simp only[Prod.mk.injEq,V.d.injEq,D.bool.injEq,and_true,Option.some.injEq])<;>(try rw[aal])<;>(try simp only[zm,zl,aaa,zp,ne_eq,aav,aan,zw,aaq,zk,zn,aat,aaz,aaw,zh,aay,iff_false,false_iff,iff_true,true_iff,zz,aao,reduceCtorEq] at *)<;>(try omega)
  · simp only[hk] at hl ⊢
    simp(disch:=first|exact y7|fail) only[go_sem,X_ap,c_ap,hl,hk,bne]
    repeat' ((try rw[goQ_b])<;>split<;>rename_i hh<;>(try simp only[zu,zq,zk,zn] at hh)<;>(try simp(disch:=first|exact y7|fail) only[*,go_sem,hl,hk,bne]))
    all_goals (try simp only[Prod.mk.injEq,V.d.injEq,D.bool.injEq,and_true,Option.some.injEq])<;>(try rw[aal])<;>(try simp only[zm,zl,aaa,zp,ne_eq,aav,aan,zw,aaq,zk,zn,aat,aaz,aaw,zh,aay,iff_false,false_iff,iff_true,true_iff,zz,aao,reduceCtorEq] at *)<;>(try omega)
  · simp only[hk] at hl ⊢
    simp(disch:=first|exact y7|fail) only[go_sem,X_ap,c_ap,hl,hk,bne]
    repeat' ((try rw[goQ_b])<;>split<;>rename_i hh<;>(try simp only[zu,zq,zk,zn] at hh)<;>(try simp(disch:=first|exact y7|fail) only[*,go_sem,hl,hk,bne]))
    all_goals (try simp only[Prod.mk.injEq,V.d.injEq,D.bool.injEq,and_true,Option.some.injEq])<;>(try rw[aal])<;>(try simp only[zm,zl,aaa,zp,ne_eq,aav,aan,zw,aaq,zk,zn,aat,aaz,aaw,zh,aay,iff_false,false_iff,iff_true,true_iff,zz,aao,reduceCtorEq] at *)<;>(try omega)
  · simp only[hk] at hl ⊢
    simp(disch:=first|exact y7|fail) only[go_sem,X_ap,c_ap,hl,hk,bne]
    repeat' ((try rw[goQ_b])<;>split<;>rename_i hh<;>(try simp only[zu,zq,zk,zn] at hh)<;>(try simp(disch:=first|exact y7|fail) only[*,go_sem,hl,hk,bne]))
    all_goals (try simp only[Prod.mk.injEq,V.d.injEq,D.bool.injEq,and_true,Option.some.injEq])<;>(try rw[aal])<;>(try simp only[zm,zl,aaa,zp,ne_eq,aav,aan,zw,aaq,zk,zn,aat,aaz,aaw,zh,aay,iff_false,false_iff,iff_true,true_iff,zz,aao,reduceCtorEq] at *)<;>(try omega)
  · simp only[hk] at hl ⊢
    simp(disch:=first|exact y7|fail) only[go_sem,X_ap,c_ap,hl,hk,bne]
    repeat' ((try rw[goQ_b])<;>split<;>rename_i hh<;>(try simp only[zu,zq,zk,zn] at hh)<;>(try simp(disch:=first|exact y7|fail) only[*,go_sem,hl,hk,bne]))
    all_goals (try simp only[Prod.mk.injEq,V.d.injEq,D.bool.injEq,and_true,Option.some.injEq])<;>(try rw[aal])<;>(try simp only[zm,zl,aaa,zp,ne_eq,aav,aan,zw,aaq,zk,zn,aat,aaz,aaw,zh,aay,iff_false,false_iff,iff_true,true_iff,zz,aao,reduceCtorEq] at *)<;>(try omega)
  · simp only[hk] at hl ⊢
    simp(disch:=first|exact y7|fail) only[go_sem,X_ap,c_ap,hl,hk,bne]
    repeat' ((try rw[goQ_b])<;>split<;>rename_i hh<;>(try simp only[zu,zq,zk,zn] at hh)<;>(try simp(disch:=first|exact y7|fail) only[*,go_sem,hl,hk,bne]))
    all_goals (try simp only[Prod.mk.injEq,V.d.injEq,D.bool.injEq,and_true,Option.some.injEq])<;>(try rw[aal])<;>(try simp only[zm,zl,aaa,zp,ne_eq,aav,aan,zw,aaq,zk,zn,aat,aaz,aaw,zh,aay,iff_false,false_iff,iff_true,true_iff,zz,aao,reduceCtorEq] at *)<;>(try omega)
  · simp(disch:=first|exact y7|fail) only[go_sem,X_ap,c_ap,hl,a,b,c,d,e,f,g,bne]
    repeat' ((try rw[goQ_b])<;>split<;>rename_i hh<;>(try simp only[zu,zq,zk,zn] at hh)<;>(try simp(disch:=first|exact y7|fail) only[*,go_sem,hl,a,b,c,d,e,f,g,bne]))
    all_goals (try simp only[Prod.mk.injEq,V.d.injEq,D.bool.injEq,and_true,Option.some.injEq])<;>(try rw[aal])<;>(try simp only[zm,zl,aaa,zp,ne_eq,aav,aan,zw,aaq,zk,zn,aat,aaz,aaw,zh,aay,iff_false,false_iff,iff_true,true_iff,zz,aao,reduceCtorEq] at *)<;>(try omega)
