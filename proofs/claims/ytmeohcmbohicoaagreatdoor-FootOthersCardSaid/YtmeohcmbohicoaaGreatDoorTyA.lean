import Derived.Test.YtmeohcmbohicoaaGreatDoorFtQ
import Derived.Test.YtmeohcmbohicoaaGreatDoorL9
namespace Go.Proofs.YtmeohcmbohicoaaGreatDoor
open Go Go.Ev
set_option maxHeartbeats 2000000
def gk (ns:List Tx):Bool:=ns.any fun s=>decide ((s.length:Int)>200)
mutual
def fewT (deep:Nat):Ty→Int
 | .mk _ ns ks _ _ _=>if decide ((deep:Int)>20)||decide ((ks.length:Int)>300)||decide ((ns.length:Int)>300) then 1000 else if gk ns then 1000 else fewTs (deep+1) 1 ks
def fewTs (deep:Nat) (n:Int):List Ty→Int
 | []=>n
 |k::r=>if decide (n+fewT deep k>1000) then 1000 else fewTs deep (n+fewT deep k) r
end
theorem fewT_eq (deep:Nat) (t:Ty):fewT deep t=if decide ((deep:Int)>20)||decide ((t.kids.length:Int)>300)||decide ((t.names.length:Int)>300) then 1000 else if gk t.names then 1000 else fewTs (deep+1) 1 t.kids:=by
 cases t with
 |mk k ns ks l p s=>rw[fewT];rfl
theorem fewTs_cons (deep:Nat) (n:Int) (k:Ty) (r:List Ty):fewTs deep n (k::r)=if decide (n+fewT deep k>1000) then 1000 else fewTs deep (n+fewT deep k) r:=by rw[fewTs]
theorem fewTs_nil (deep:Nat) (n:Int):fewTs deep n []=n:=by rw[fewTs]
theorem fewT_bd:∀ (m:Nat) (t:Ty) (deep:Nat),t.size≤m→1≤fewT deep t∧fewT deep t≤1000
 |0,t,deep,h=>by have:=t.size_pos;omega
 | m+1,t,deep,h=>by
  rw[fewT_eq];split
  · omega
  · split
    · omega
    · have key:∀ (r:List Ty) (n:Int),(∀ k∈r,k.size≤m)→1≤n→n≤1000→1≤fewTs (deep+1) n r∧fewTs (deep+1) n r≤1000:=by
       intro r
       induction r with
       |nil=>intro n _ h1 h2;rw[fewTs_nil];omega
       | cons k r ih=>
        intro n hk h1 h2;have:=fewT_bd m k (deep+1) (hk k vq);rw[fewTs_cons];split
        · omega
        · rename_i h3
          simp only[we] at h3;exact ih _ (fun x hx=>hk x (by simp[hx])) vn vn
      exact key t.kids _ (fun k hk=>by have:=Ty.size_kid hk;omega) vn vn
theorem law13_names_loop (t:Ty) (deep:Nat) (hn:t.names.length≤300) {K:List Kf}:∀ (r:List Tx) (i:Nat),t.names.drop i=r→i≤t.names.length→
  go X_am (.c (.loop a8q):: .b 0::K) ⟨[(1,.d (.int .i64 ((deep:Int)))),(2,.ref 0 2 0),(5,.d (.int .i64 (1))),(6,.d (.int .i64 ((i:Int))))],boxT 2 t⟩=
    if gk r then some (.d (.int .i64 (1000)),[]) else go X_am K ⟨[(1,.d (.int .i64 ((deep:Int)))),(2,.ref 0 2 0),(5,.d (.int .i64 (1))),(6,.d (.int .i64 ((t.names.length:Int)))),(26,.d (.bool (false)))],boxT 2 t⟩
 | [],i,hr,hi=>by
  have:=br hr;have:i=t.names.length:=vn;subst this;have d_a:decide ((t.names.length:Int)<t.names.length)=false:=by simp<;>omega
  rw[go_loop,if_neg (by simp[gk])]
  simp(disch:=first|exact vm|fail) only[go_sem,X_am,d_a,boxT]
 | s::r,i,hr,hi=>by
  obtain⟨hlt,hc,hr'⟩:=cc hr;have d_a:decide ((i:Int)<t.names.length)=true:=by simp<;>omega
  have e1:(i:Int)+1=((i+1:Nat):Int):=vn;have e2:gk (s::r)=(decide ((s.length:Int)>200)||gk r):=rfl;rw[go_loop,e2];rcases wx (decide ((s.length:Int)>200)) with d_x|d_x<;>have p_x:=d_x<;>simp only[we,wd,xj,wq,ne_eq] at p_x
  · rw[if_pos (by rw[d_x];rfl)]
    simp(disch:=first|exact vm|fail) only[go_sem,X_am,d_a,hc,boxT,d_x]
  · have ih:=law13_names_loop t deep hn (K:=K) r (i+1) hr' vn
    rw[d_x,Bool.false_or,← ih];simp(disch:=first|exact vm|fail) only[go_sem,X_am,d_a,hc,boxT,d_x,e1]
theorem law13_few_loop (t:Ty) (deep:Nat) (hd:deep≤20) (hk:t.kids.length≤300) (IH:∀ k∈t.kids,evL cfg n_am 0 [.d k.d,.d (.int .i64 (((deep+1:Nat):Int)))] []=some (.d (.int .i64 (fewT (deep+1) k)),[])):∀ (r:List Ty) (i:Nat) (n:Int),t.kids.drop i=r→i≤t.kids.length→1≤n→n≤1000→
  go X_am [.c (.loop akq),.b 2,.c (.seq ahi .ret)] ⟨[(1,.d (.int .i64 ((deep:Int)))),(2,.ref 0 2 0),(5,.d (.int .i64 (n))),(7,.d (.int .i64 ((i:Int))))],boxT 2 t⟩=some (.d (.int .i64 (fewTs (deep+1) n r)),[])
 | [],i,n,hr,hi,h1,h2=>by
  have:=br hr;have:i=t.kids.length:=vn;subst this;have d_a:decide ((t.kids.length:Int)<t.kids.length)=false:=by simp<;>omega
  rw[go_loop,fewTs_nil];simp(disch:=first|exact vm|fail) only[go_sem,X_am,d_a,boxT]
 | k::r,i,n,hr,hi,h1,h2=>by
  obtain⟨hlt,hc,hr'⟩:=cc hr;have hb:=fewT_bd _ k (deep+1) (wa _);have hf:=IH k (List.mem_of_getElem? hc);have d_a:decide ((i:Int)<t.kids.length)=true:=by simp<;>omega
  have e1:(i:Int)+1=((i+1:Nat):Int):=vn;have e2:(deep:Int)+1=((deep+1:Nat):Int):=vn;rw[go_loop,fewTs_cons];generalize fewT (deep+1) k=q at *;rcases wx (decide (n+q>1000)) with d_x|d_x<;>have p_x:=d_x<;>simp only[we,wd,xj,wq,ne_eq] at p_x
  · simp(disch:=first|exact vm|fail) only[go_sem,X_am,d_a,hc,e2,hf,boxT,d_x]
  · have ih:=law13_few_loop t deep hd hk IH r (i+1) (n+q) hr' vn vn vn
    simp only[boxT] at ih;simp(disch:=first|exact vm|fail) only[go_sem,X_am,d_a,hc,e2,hf,boxT,d_x,e1,ih]
theorem law13_few_ans:∀ (m:Nat) (t:Ty) (deep:Nat),t.size≤m→deep≤21→evL cfg n_am 0 [.d t.d,.d (.int .i64 ((deep:Int)))] []=some (.d (.int .i64 (fewT deep t)),[])
 |0,t,deep,h,_=>by have:=t.size_pos;omega
 | m+1,t,deep,h,hd=>by
  rw[o_am,fewT_eq];rcases wx (decide ((deep:Int)>20)) with d_a|d_a<;>have p_a:=d_a<;>simp only[we,wd,xj,wq,ne_eq] at p_a
  · simp(disch:=first|exact vm|fail) only[go_sem,X_am,c_am,d_a]
  · rcases wx (decide ((t.kids.length:Int)>300)) with d_b|d_b<;>have p_b:=d_b<;>simp only[we,wd,xj,wq,ne_eq] at p_b
    · simp(disch:=first|exact vm|fail) only[go_sem,X_am,c_am,d_a,d_b]
    · rcases wx (decide ((t.names.length:Int)>300)) with d_c|d_c<;>have p_c:=d_c<;>simp only[we,wd,xj,wq,ne_eq] at p_c
      · simp(disch:=first|exact vm|fail) only[go_sem,X_am,c_am,d_a,d_b,d_c]
      · have IH:∀ k∈t.kids,evL cfg n_am 0 [.d k.d,.d (.int .i64 (((deep+1:Nat):Int)))] []=some (.d (.int .i64 (fewT (deep+1) k)),[]):=fun k hk=>law13_few_ans m k (deep+1) (by have:=Ty.size_kid hk;omega) vn
        have hn:=fun K=>law13_names_loop t deep vn (K:=K) t.names 0 rfl (ww _)
        have hl:=law13_few_loop t deep vn vn IH t.kids 0 1 rfl (ww _) vn vn;simp only[boxT,nc0] at hl hn;cases hx:gk t.names with
        | true=>
         simp only[hx,if_true] at hn;simp(disch:=first|exact vm|fail) only[go_sem,X_am,c_am,d_a,d_b,d_c,hn]
        | false=>
         simp only[hx,vv,if_false] at hn;simp(disch:=first|exact vm|fail) only[go_sem,X_am,c_am,d_a,d_b,d_c,hn,hl]
def fewTB (t:Ty):Bool:=decide (fewT 1 t≤150)
theorem law13_Few_ans (t:Ty):evL cfg n_br 0 [.d t.d] []=some (.d (.bool (fewTB t)),[]):=by
 have h1:=law13_few_ans _ t 1 (wa _) vn;rw[show((1:Nat):Int)=1 from rfl] at h1
 rw[o_br];simp(disch:=first|exact vm|fail) only[go_sem,X_br,c_br,h1,fewTB]
