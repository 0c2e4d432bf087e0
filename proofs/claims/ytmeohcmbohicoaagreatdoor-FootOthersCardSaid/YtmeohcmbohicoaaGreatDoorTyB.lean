import Derived.Test.YtmeohcmbohicoaaGreatDoorTyA
namespace Go.Proofs.YtmeohcmbohicoaaGreatDoor
open Go Go.Ev
set_option maxHeartbeats 2000000
def hasN (s:Tx) (l:List Tx):Bool:=l.any fun x=>x==s
def fg (ns:List Tx):Nat→List Tx→Bool
 |_,[]=>true
 |i,s::r=> !(s==[]||decide ((s.length:Int)>100))&& !hasN s (ns.take i)&&fg ns (i+1) r
def afa (t:Ty):Bool:=
 if t.kind==10 then(t.kids.length:Int)==1 else if t.kind==11 then(t.kids.length:Int)==2 else if t.kind==12 then(t.kids.length:Int)==t.names.length
 else if t.kind==13 then decide ((t.kids.length:Int)≥1)&&decide ((t.kids.length:Int)≤255) else(t.kids.length:Int)==0
def restT (t:Ty):Int:=
 if((t.kind==16||t.kind==17)&&(decide (t.len<1)||decide (t.len>4096)))||(!(t.kind==16||t.kind==17)&&t.len !=0) then 1
 else if t.kind==14 then(if decide (t.prec<1)||decide (t.prec>18)||decide (t.scale<0)||decide (t.scale>t.prec) then 1 else 0)
 else if t.prec !=0||t.scale !=0 then 1 else 0
def ownM (t:Ty):Int:=
 if t.kind==5||t.kind==6 then 5 else if decide (t.kind<0)||decide (t.kind>17) then 1
 else if !afa t||(t.kind !=12&&decide ((t.names.length:Int)>0)) then 1 else if fg t.names 0 t.names then restT t else 1
theorem aey (t:Ty) (hn:t.names.length<2 ^ 63) {s:Tx} {i:Nat} (hs:t.names[i]? =some s) {K:List Kf}:∀ (q:List Tx) (k:Nat),(t.names.take i).drop k=q→k≤i→i≤t.names.length→
  go X_af (.c (.loop t7):: .b 3::K) ⟨[(1,.ref 0 1 0),(5,.d (.int .i64 ((i:Int)))),(6,.d (.int .i64 ((k:Int))))],boxT 1 t⟩=
    if hasN s q then some (.d (.int .i64 (1)),[]) else go X_af K ⟨[(1,.ref 0 1 0),(5,.d (.int .i64 ((i:Int)))),(6,.d (.int .i64 ((i:Int)))),(91,.d (.bool (false)))],boxT 1 t⟩
 | [],k,hr,hk,hi=>by
  have h1:=br hr;rw[List.length_take] at h1;have:k=i:=vn;subst this;have d_a:decide ((k:Int)<k)=false:=by simp<;>omega
  rw[go_loop,if_neg (by simp[hasN])]
  simp(disch:=first|exact vm|fail) only[go_sem,X_af,d_a,boxT]
 | x::q,k,hr,hk,hi=>by
  obtain⟨hlt,hc,hr'⟩:=cc hr;rw[List.length_take] at hlt;have hc':t.names[k]? =some x:=by rw[List.getElem?_take_of_lt vn] at hc;exact hc
  have d_a:decide ((k:Int)<i)=true:=by simp<;>omega
  have e1:(k:Int)+1=((k+1:Nat):Int):=vn;have e2:hasN s (x::q)=((x==s)||hasN s q):=rfl;rw[go_loop,e2];rcases wx (x==s) with h|h
  · rw[if_pos (by rw[h];rfl)]
    simp(disch:=first|exact vm|fail) only[go_sem,X_af,d_a,hc',hs,boxT,h]
  · have ih:=aey t hn hs (K:=K) q (k+1) hr' vn hi
    rw[h,Bool.false_or,← ih];simp(disch:=first|exact vm|fail) only[go_sem,X_af,d_a,hc',hs,boxT,h,e1]
theorem aex (t:Ty) (hn:t.names.length<2 ^ 63) {K:List Kf}:∀ (r:List Tx) (i:Nat) (ex:List (Nat×V)),t.names.drop i=r→i≤t.names.length→
  go X_af (.c (.loop akw):: .b 1::K) ⟨[(1,.ref 0 1 0),(5,.d (.int .i64 ((i:Int))))],boxT 1 t⟩=
    if fg t.names i r then go X_af K ⟨[(1,.ref 0 1 0),(5,.d (.int .i64 ((t.names.length:Int)))),(71,.d (.bool (false)))],boxT 1 t⟩ else some (.d (.int .i64 (1)),[])
 | [],i,ex,hr,hi=>by
  have h1:=br hr;have:i=t.names.length:=vn;subst this;have d_a:decide ((t.names.length:Int)<t.names.length)=false:=by simp<;>omega
  rw[go_loop,fg,if_pos rfl];simp(disch:=first|exact vm|fail) only[go_sem,X_af,d_a,boxT]
 | s::r,i,ex,hr,hi=>by
  obtain⟨hlt,hc,hr'⟩:=cc hr;have d_a:decide ((i:Int)<t.names.length)=true:=by simp<;>omega
  have e1:(i:Int)+1=((i+1:Nat):Int):=vn;have hin:=fun K=>aey t hn hc (K:=K) (t.names.take i) 0 rfl (ww _) vn
  simp only[boxT,nc0] at hin;rw[go_loop,fg];rcases wx (s==[]) with x|x
  · rw[x]
    simp(disch:=first|exact vm|fail) only[go_sem,X_af,d_a,hc,boxT,x]
  · rcases wx (decide ((s.length:Int)>100)) with d_y|d_y<;>have p_y:=d_y<;>simp only[we,wd,xj,wq,ne_eq] at p_y
    · rw[x,d_y]
      simp(disch:=first|exact vm|fail) only[go_sem,X_af,d_a,hc,boxT,x,d_y]
    · cases hh:hasN s (t.names.take i) with
      | true=>
       simp only[hh,if_true] at hin;rw[x,d_y];simp(disch:=first|exact vm|fail) only[go_sem,X_af,d_a,hc,boxT,x,d_y,hin]
      | false=>
       simp only[hh,vv,if_false] at hin;have ih:=aex t hn (K:=K) r (i+1) ex hr' vn;simp only[boxT] at ih;rw[x,d_y];simp(disch:=first|exact vm|fail) only[go_sem,X_af,d_a,hc,boxT,x,d_y,hin,e1,ih]
theorem aup (k:Int):k=10∨k=11∨k=12∨k=13∨k=14∨k=16∨k=17∨((k==10)=false∧(k==11)=false∧(k==12)=false∧(k==13)=false∧(k==14)=false∧(k==16)=false∧(k==17)=false):=by
 simp only[wq,ne_eq];omega
theorem s9 (t:Ty) (hn:t.names.length<2 ^ 63):evL cfg n_af 0 [.d t.d] []=some (.d (.int .i64 (ownM t)),[]):=by
 have hl:=fun K=>aex t hn (K:=K) t.names 0 [] rfl (ww _)
 simp only[boxT,nc0] at hl;rw[o_af];unfold ownM afa restT;cases hq:fg t.names 0 t.names with
 | true=>
  simp only[hq,if_true] at hl;rcases aup t.kind with hk|hk|hk|hk|hk|hk|hk|⟨a,b,c,d,e,f,g⟩
  · simp only[hk] at hl ⊢
    simp(disch:=first|exact vm|fail) only[go_sem,X_af,c_af,hl,hk,bne]
    repeat' ((try rw[goQ_b])<;>split<;>rename_i hh<;>(try simp only[wk,wg,v7,v9] at hh)<;>(try simp(disch:=first|exact vm|fail) only[*,go_sem,hl,hk,bne]))
  · simp only[hk] at hl ⊢
    simp(disch:=first|exact vm|fail) only[go_sem,X_af,c_af,hl,hk,bne]
    repeat' ((try rw[goQ_b])<;>split<;>rename_i hh<;>(try simp only[wk,wg,v7,v9] at hh)<;>(try simp(disch:=first|exact vm|fail) only[*,go_sem,hl,hk,bne]))
  · simp only[hk] at hl ⊢
    simp(disch:=first|exact vm|fail) only[go_sem,X_af,c_af,hl,hk,bne]
    repeat' ((try rw[goQ_b])<;>split<;>rename_i hh<;>(try simp only[wk,wg,v7,v9] at hh)<;>(try simp(disch:=first|exact vm|fail) only[*,go_sem,hl,hk,bne]))
  · simp only[hk] at hl ⊢
    simp(disch:=first|exact vm|fail) only[go_sem,X_af,c_af,hl,hk,bne]
    repeat' ((try rw[goQ_b])<;>split<;>rename_i hh<;>(try simp only[wk,wg,v7,v9] at hh)<;>(try simp(disch:=first|exact vm|fail) only[*,go_sem,hl,hk,bne]))
  · simp only[hk] at hl ⊢
    simp(disch:=first|exact vm|fail) only[go_sem,X_af,c_af,hl,hk,bne]
    repeat' ((try rw[goQ_b])<;>split<;>rename_i hh<;>(try simp only[wk,wg,v7,v9] at hh)<;>(try simp(disch:=first|exact vm|fail) only[*,go_sem,hl,hk,bne]))
  · simp only[hk] at hl ⊢
    simp(disch:=first|exact vm|fail) only[go_sem,X_af,c_af,hl,hk,bne]
    repeat' ((try rw[goQ_b])<;>split<;>rename_i hh<;>(try simp only[wk,wg,v7,v9] at hh)<;>(try simp(disch:=first|exact vm|fail) only[*,go_sem,hl,hk,bne]))
  · simp only[hk] at hl ⊢
    simp(disch:=first|exact vm|fail) only[go_sem,X_af,c_af,hl,hk,bne]
    repeat' ((try rw[goQ_b])<;>split<;>rename_i hh<;>(try simp only[wk,wg,v7,v9] at hh)<;>(try simp(disch:=first|exact vm|fail) only[*,go_sem,hl,hk,bne]))
  · simp(disch:=first|exact vm|fail) only[go_sem,X_af,c_af,hl,a,b,c,d,e,f,g,bne]
    repeat' ((try rw[goQ_b])<;>split<;>rename_i hh<;>(try simp only[wk,wg,v7,v9] at hh)<;>(try simp(disch:=first|exact vm|fail) only[*,go_sem,hl,a,b,c,d,e,f,g,bne]))
 | false=>
  simp only[hq,vv,if_false] at hl;rcases aup t.kind with hk|hk|hk|hk|hk|hk|hk|⟨a,b,c,d,e,f,g⟩
  · simp only[hk] at hl ⊢
    simp(disch:=first|exact vm|fail) only[go_sem,X_af,c_af,hl,hk,bne]
    repeat' ((try rw[goQ_b])<;>split<;>rename_i hh<;>(try simp only[wk,wg,v7,v9] at hh)<;>(try simp(disch:=first|exact vm|fail) only[*,go_sem,hl,hk,bne]))
  · simp only[hk] at hl ⊢
    simp(disch:=first|exact vm|fail) only[go_sem,X_af,c_af,hl,hk,bne]
    repeat' ((try rw[goQ_b])<;>split<;>rename_i hh<;>(try simp only[wk,wg,v7,v9] at hh)<;>(try simp(disch:=first|exact vm|fail) only[*,go_sem,hl,hk,bne]))
  · simp only[hk] at hl ⊢
    simp(disch:=first|exact vm|fail) only[go_sem,X_af,c_af,hl,hk,bne]
    repeat' ((try rw[goQ_b])<;>split<;>rename_i hh<;>(try simp only[wk,wg,v7,v9] at hh)<;>(try simp(disch:=first|exact vm|fail) only[*,go_sem,hl,hk,bne]))
  · simp only[hk] at hl ⊢
    simp(disch:=first|exact vm|fail) only[go_sem,X_af,c_af,hl,hk,bne]
    repeat' ((try rw[goQ_b])<;>split<;>rename_i hh<;>(try simp only[wk,wg,v7,v9] at hh)<;>(try simp(disch:=first|exact vm|fail) only[*,go_sem,hl,hk,bne]))
  · simp only[hk] at hl ⊢
    simp(disch:=first|exact vm|fail) only[go_sem,X_af,c_af,hl,hk,bne]
    repeat' ((try rw[goQ_b])<;>split<;>rename_i hh<;>(try simp only[wk,wg,v7,v9] at hh)<;>(try simp(disch:=first|exact vm|fail) only[*,go_sem,hl,hk,bne]))
  · simp only[hk] at hl ⊢
    simp(disch:=first|exact vm|fail) only[go_sem,X_af,c_af,hl,hk,bne]
    repeat' ((try rw[goQ_b])<;>split<;>rename_i hh<;>(try simp only[wk,wg,v7,v9] at hh)<;>(try simp(disch:=first|exact vm|fail) only[*,go_sem,hl,hk,bne]))
  · simp only[hk] at hl ⊢
    simp(disch:=first|exact vm|fail) only[go_sem,X_af,c_af,hl,hk,bne]
    repeat' ((try rw[goQ_b])<;>split<;>rename_i hh<;>(try simp only[wk,wg,v7,v9] at hh)<;>(try simp(disch:=first|exact vm|fail) only[*,go_sem,hl,hk,bne]))
  · simp(disch:=first|exact vm|fail) only[go_sem,X_af,c_af,hl,a,b,c,d,e,f,g,bne]
    repeat' ((try rw[goQ_b])<;>split<;>rename_i hh<;>(try simp only[wk,wg,v7,v9] at hh)<;>(try simp(disch:=first|exact vm|fail) only[*,go_sem,hl,a,b,c,d,e,f,g,bne]))
mutual
def chkT (deep:Nat) (n:Int):Ty→Int×Int
 | .mk k ns ks l p s=>if decide ((deep:Int)>16)||decide (n≥100) then(n,4) else if ownM (.mk k ns ks l p s) !=0 then(n,ownM (.mk k ns ks l p s)) else chkTs (deep+1) (n+1) ks
def chkTs (deep:Nat) (n:Int):List Ty→Int×Int
 | []=>(n,0)
 |k::r=>if(chkT deep n k).2 !=0 then chkT deep n k else chkTs deep (chkT deep n k).1 r
end
theorem chkT_eq (deep:Nat) (n:Int) (t:Ty):chkT deep n t=if decide ((deep:Int)>16)||decide (n≥100) then(n,4) else if ownM t !=0 then(n,ownM t) else chkTs (deep+1) (n+1) t.kids:=by
 cases t with
 |mk k ns ks l p s=>rw[chkT];rfl
theorem chkTs_nil (deep:Nat) (n:Int):chkTs deep n []=(n,0):=by rw[chkTs]
theorem chkTs_cons (deep:Nat) (n:Int) (k:Ty) (r:List Ty):chkTs deep n (k::r)=if(chkT deep n k).2 !=0 then chkT deep n k else chkTs deep (chkT deep n k).1 r:=by rw[chkTs]
theorem chkT_le:∀ (m:Nat) (t:Ty) (deep:Nat) (n:Int),t.size≤m→n≤100→n≤(chkT deep n t).1∧(chkT deep n t).1≤100
 |0,t,deep,n,h,hn=>by have:=t.size_pos;omega
 | m+1,t,deep,n,h,hn=>by
  rw[chkT_eq];split
  · exact⟨Int.le_refl _,hn⟩
  · rename_i hc
    simp only[xg,we,not_or] at hc;split
    · exact⟨Int.le_refl _,hn⟩
    · have key:∀ (r:List Ty) (n:Int),(∀ k∈r,k.size≤m)→n≤100→n≤(chkTs (deep+1) n r).1∧(chkTs (deep+1) n r).1≤100:=by
       intro r
       induction r with
       |nil=>intro n _ h;rw[chkTs_nil];exact⟨Int.le_refl _,h⟩
       | cons k r ih=>
        intro n hk h;have h1:=chkT_le m k (deep+1) n (hk k vq) h;rw[chkTs_cons];split
        · exact h1
        · have h2:=ih (chkT (deep+1) n k).1 (fun x hx=>hk x (by simp[hx])) h1.2
          exact⟨by omega,h2.2⟩
      have:=key t.kids (n+1) (fun k hk=>by have:=Ty.size_kid hk;omega) vn
      exact⟨by omega,this.2⟩
def smallT:Nat→Ty→Prop
 |0,_=>True
 |m+1,t=>t.names.length<2 ^ 63∧t.kids.length<2 ^ 63∧∀ k∈t.kids,smallT m k
theorem ref13_check_loop (t:Ty) (deep:Nat) (hd:deep≤16) (hk:t.kids.length<2 ^ 63) (IH:∀ k∈t.kids,∀ n:Int,0≤n→n≤100→evL cfg n_al 0 [.d k.d,.d (.int .i64 (((deep+1:Nat):Int))),.d (.int .i64 (n))] []=some (.d (.tup [.int .i64 (chkT (deep+1) n k).1,.int .i64 (chkT (deep+1) n k).2]),[])):∀ (r:List Ty) (i:Nat) (n:Int),t.kids.drop i=r→i≤t.kids.length→0≤n→n≤100→
  go X_al [.c (.loop akr),.b 0,.c (.seq aho .ret)] ⟨[(1,.d (.int .i64 ((deep:Int)))),(2,.d (.int .i64 (n))),(3,.ref 0 3 0),(9,.d (.int .i64 ((i:Int))))],boxT 3 t⟩=some (.d (.tup [.int .i64 (chkTs (deep+1) n r).1,.int .i64 (chkTs (deep+1) n r).2]),[])
 | [],i,n,hr,hi,h1,h2=>by
  have:=br hr;have:i=t.kids.length:=vn;subst this;have d_a:decide ((t.kids.length:Int)<t.kids.length)=false:=by simp<;>omega
  rw[go_loop,chkTs_nil];simp(disch:=first|exact vm|fail) only[go_sem,X_al,d_a,boxT]
 | k::r,i,n,hr,hi,h1,h2=>by
  obtain⟨hlt,hc,hr'⟩:=cc hr;have hb:=chkT_le _ k (deep+1) n (wa _) h2;have hf:=IH k (List.mem_of_getElem? hc) n h1 h2;have d_a:decide ((i:Int)<t.kids.length)=true:=by simp<;>omega
  have e1:(i:Int)+1=((i+1:Nat):Int):=vn;have e2:(deep:Int)+1=((deep+1:Nat):Int):=vn;rw[go_loop,chkTs_cons];generalize chkT (deep+1) n k=q at *;rcases wx (q.2 !=0) with x|x
  · simp(disch:=first|exact vm|fail) only[go_sem,X_al,d_a,hc,e2,hf,boxT,x]
  · have ih:=ref13_check_loop t deep hd hk IH r (i+1) q.1 hr' vn vn hb.2
    simp only[boxT] at ih;simp(disch:=first|exact vm|fail) only[go_sem,X_al,d_a,hc,e2,hf,boxT,x,e1,ih]
theorem ref13_check_ans:∀ (m:Nat) (t:Ty) (deep:Nat) (n:Int),t.size≤m→smallT m t→deep≤17→0≤n→n≤100→evL cfg n_al 0 [.d t.d,.d (.int .i64 ((deep:Int))),.d (.int .i64 (n))] []=some (.d (.tup [.int .i64 (chkT deep n t).1,.int .i64 (chkT deep n t).2]),[])
 |0,t,deep,n,h,_,_,_,_=>by have:=t.size_pos;omega
 | m+1,t,deep,n,h,hs,hd,h1,h2=>by
  obtain⟨s1,s2,s3⟩:=hs;have ho:=s9 t s1;rw[o_al,chkT_eq];rcases wx (decide ((deep:Int)>16)) with d_a|d_a<;>have p_a:=d_a<;>simp only[we,wd,xj,wq,ne_eq] at p_a
  · simp(disch:=first|exact vm|fail) only[go_sem,X_al,c_al,d_a]
  · rcases wx (decide (n≥100)) with d_b|d_b<;>have p_b:=d_b<;>simp only[we,wd,xj,wq,ne_eq] at p_b
    · simp(disch:=first|exact vm|fail) only[go_sem,X_al,c_al,d_a,d_b]
    · rcases wx (ownM t !=0) with x|x
      · simp(disch:=first|exact vm|fail) only[go_sem,X_al,c_al,d_a,d_b,ho,x]
      · have IH:∀ k∈t.kids,∀ n:Int,0≤n→n≤100→evL cfg n_al 0 [.d k.d,.d (.int .i64 (((deep+1:Nat):Int))),.d (.int .i64 (n))] []=some (.d (.tup [.int .i64 (chkT (deep+1) n k).1,.int .i64 (chkT (deep+1) n k).2]),[]):=
         fun k hk n g1 g2=>ref13_check_ans m k (deep+1) n (by have:=Ty.size_kid hk;omega) (s3 k hk) vn g1 g2
        have hl:=ref13_check_loop t deep vn s2 IH t.kids 0 (n+1) rfl (ww _) vn vn;simp only[boxT,nc0] at hl;simp(disch:=first|exact vm|fail) only[go_sem,X_al,c_al,d_a,d_b,ho,x,hl]
theorem ref13_Check_ans (t:Ty) (hs:smallT t.size t):evL cfg n_bp 0 [.d t.d] []=some (.d (.int .i64 ((chkT 1 0 t).2)),[]):=by
 have h1:=ref13_check_ans _ t 1 0 (wa _) hs vn vn vn;rw[show((1:Nat):Int)=1 from rfl] at h1
 rw[o_bp];simp(disch:=first|exact vm|fail) only[go_sem,X_bp,c_bp,h1]
