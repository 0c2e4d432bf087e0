import Derived.Test.YtpnhljhciibfnaaGreatDoorPbF
import Derived.Test.YtpnhljhciibfnaaGreatDoorPbE
import Derived.Test.YtpnhljhciibfnaaGreatDoorL10
import Derived.Test.YtpnhljhciibfnaaGreatDoorVaD
set_option linter.unusedSimpArgs false
namespace Go.Proofs.YtpnhljhciibfnaaGreatDoor
open Go Go.Ev
def T8 (k:Nat):D:= .int .i64 (k:Int)
theorem len8 (a b c d e f g h:D):[a,b,c,d,e,f,g,h].length=8:=rfl
set_option maxHeartbeats 2000000
def kh (ns:List Tx):Bool:=ns.any fun s=>decide ((s.length:Int)>200)
mutual
def EL (deep:Nat):Ty→Int
 | .mk _ ns ks _ _ _=>if decide ((deep:Int)>20)||decide ((ks.length:Int)>300)||decide ((ns.length:Int)>300) then 1000 else if kh ns then 1000 else Dg (deep+1) 1 ks
def Dg (deep:Nat) (n:Int):List Ty→Int
 | []=>n
 |k::r=>if decide (n+EL deep k>1000) then 1000 else Dg deep (n+EL deep k) r
end
theorem He (deep:Nat) (t:Ty):EL deep t=if decide ((deep:Int)>20)||decide ((t.kids.length:Int)>300)||decide ((t.names.length:Int)>300) then 1000 else if kh t.names then 1000 else Dg (deep+1) 1 t.kids:=by
 cases t with
 |mk k ns ks l p s=>rw[EL];rfl
theorem Du (deep:Nat) (n:Int) (k:Ty) (r:List Ty):Dg deep n (k::r)=if decide (n+EL deep k>1000) then 1000 else Dg deep (n+EL deep k) r:=by rw[Dg]
theorem FZ (deep:Nat) (n:Int):Dg deep n []=n:=by rw[Dg]
theorem GB:∀ (m:Nat) (t:Ty) (deep:Nat),t.size≤m→1≤EL deep t∧EL deep t≤1000
 |0,t,deep,h=>by have:=t.size_pos;omega
 | m+1,t,deep,h=>by
  rw[He];split
  · omega
  · split
    · omega
    · have key:∀ (r:List Ty) (n:Int),(∀ k∈r,k.size≤m)→1≤n→n≤1000→1≤Dg (deep+1) n r∧Dg (deep+1) n r≤1000:=by
       intro r
       induction r with
       |nil=>intro n _ h1 h2;rw[FZ];omega
       | cons k r ih=>
        intro n hk h1 h2;have:=GB m k (deep+1) (hk k aa3);rw[Du];split
        · omega
        · rename_i h3
          simp only[aa9] at h3;exact ih _ (fun x hx=>hk x (by simp[hx])) aa1 aa1
      exact key t.kids _ (fun k hk=>by have:=Ty.Bu hk;omega) aa1 aa1
theorem Df (t:Ty) (deep:Nat) (hn:t.names.length≤300) {K:List Kf}:∀ (r:List Tx) (i:Nat),t.names.drop i=r→i≤t.names.length→
  go Ey (.c (.loop bt0):: .b 0::K) ⟨[(1,.d (.int .i64 ((deep:Int)))),(2,.ref 0 2 0),(5,.d (.int .i64 (1))),(6,.d (.int .i64 ((i:Int))))],Au 2 t⟩=
    if kh r then some (.d (.int .i64 (1000)),[]) else go Ey K ⟨[(1,.d (.int .i64 ((deep:Int)))),(2,.ref 0 2 0),(5,.d (.int .i64 (1))),(6,.d (.int .i64 ((t.names.length:Int)))),(26,.d (.bool (false)))],Au 2 t⟩
 | [],i,hr,hi=>by
  have:=de hr;have:i=t.names.length:=aa1;subst this;have d_a:decide ((t.names.length:Int)<t.names.length)=false:=by simp<;>omega
  rw[go_loop,if_neg (by simp[kh])]
  simp(disch:=first|exact aa0|fail) only[go_sem,Ey,d_a,Au]
 | s::r,i,hr,hi=>by
  obtain⟨hlt,hc,hr'⟩:=ej hr;have d_a:decide ((i:Int)<t.names.length)=true:=by simp<;>omega
  have e1:(i:Int)+1=((i+1:Nat):Int):=aa1;have e2:kh (s::r)=(decide ((s.length:Int)>200)||kh r):=rfl;rw[go_loop,e2];rcases aa5 (decide ((s.length:Int)>200)) with d_x|d_x<;>have p_x:=d_x<;>simp only[aa9,aa7,abm,aba,ne_eq] at p_x
  · rw[if_pos (by rw[d_x];rfl)]
    simp(disch:=first|exact aa0|fail) only[go_sem,Ey,d_a,hc,Au,d_x]
  · have ih:=Df t deep hn (K:=K) r (i+1) hr' aa1
    rw[d_x,Bool.false_or,← ih];simp(disch:=first|exact aa0|fail) only[go_sem,Ey,d_a,hc,Au,d_x,e1]
theorem EJ (t:Ty) (deep:Nat) (hd:deep≤20) (hk:t.kids.length≤300) (IH:∀ k∈t.kids,evL cfg HZ 0 [.d k.d,.d (.int .i64 (((deep+1:Nat):Int)))] []=some (.d (.int .i64 (EL (deep+1) k)),[])):∀ (r:List Ty) (i:Nat) (n:Int),t.kids.drop i=r→i≤t.kids.length→1≤n→n≤1000→
  go Ey [.c (.loop av2),.b 2,.c (.seq arb .ret)] ⟨[(1,.d (.int .i64 ((deep:Int)))),(2,.ref 0 2 0),(5,.d (.int .i64 (n))),(7,.d (.int .i64 ((i:Int))))],Au 2 t⟩=some (.d (.int .i64 (Dg (deep+1) n r)),[])
 | [],i,n,hr,hi,h1,h2=>by
  have:=de hr;have:i=t.kids.length:=aa1;subst this;have d_a:decide ((t.kids.length:Int)<t.kids.length)=false:=by simp<;>omega
  rw[go_loop,FZ];simp(disch:=first|exact aa0|fail) only[go_sem,Ey,d_a,Au]
 | k::r,i,n,hr,hi,h1,h2=>by
  obtain⟨hlt,hc,hr'⟩:=ej hr;have hb:=GB _ k (deep+1) (abn _);have hf:=IH k (List.mem_of_getElem? hc);have d_a:decide ((i:Int)<t.kids.length)=true:=by simp<;>omega
  have e1:(i:Int)+1=((i+1:Nat):Int):=aa1;have e2:(deep:Int)+1=((deep+1:Nat):Int):=aa1;rw[go_loop,Du];generalize EL (deep+1) k=q at *;rcases aa5 (decide (n+q>1000)) with d_x|d_x<;>have p_x:=d_x<;>simp only[aa9,aa7,abm,aba,ne_eq] at p_x
  · simp(disch:=first|exact aa0|fail) only[go_sem,Ey,d_a,hc,e2,hf,Au,d_x]
  · have ih:=EJ t deep hd hk IH r (i+1) (n+q) hr' aa1 aa1 aa1
    simp only[Au] at ih;simp(disch:=first|exact aa0|fail) only[go_sem,Ey,d_a,hc,e2,hf,Au,d_x,e1,ih]
theorem Ek:∀ (m:Nat) (t:Ty) (deep:Nat),t.size≤m→deep≤21→evL cfg HZ 0 [.d t.d,.d (.int .i64 ((deep:Int)))] []=some (.d (.int .i64 (EL deep t)),[])
 |0,t,deep,h,_=>by have:=t.size_pos;omega
 | m+1,t,deep,h,hd=>by
  rw[o_au,He];rcases aa5 (decide ((deep:Int)>20)) with d_a|d_a<;>have p_a:=d_a<;>simp only[aa9,aa7,abm,aba,ne_eq] at p_a
  · simp(disch:=first|exact aa0|fail) only[go_sem,Ey,Ia,d_a]
  · rcases aa5 (decide ((t.kids.length:Int)>300)) with d_b|d_b<;>have p_b:=d_b<;>simp only[aa9,aa7,abm,aba,ne_eq] at p_b
    · simp(disch:=first|exact aa0|fail) only[go_sem,Ey,Ia,d_a,d_b]
    · rcases aa5 (decide ((t.names.length:Int)>300)) with d_c|d_c<;>have p_c:=d_c<;>simp only[aa9,aa7,abm,aba,ne_eq] at p_c
      · simp(disch:=first|exact aa0|fail) only[go_sem,Ey,Ia,d_a,d_b,d_c]
      · have IH:∀ k∈t.kids,evL cfg HZ 0 [.d k.d,.d (.int .i64 (((deep+1:Nat):Int)))] []=some (.d (.int .i64 (EL (deep+1) k)),[]):=fun k hk=>Ek m k (deep+1) (by have:=Ty.Bu hk;omega) aa1
        have hn:=fun K=>Df t deep aa1 (K:=K) t.names 0 rfl (acj _)
        have hl:=EJ t deep aa1 aa1 IH t.kids 0 1 rfl (acj _) aa1 aa1;simp only[Au,nc0] at hl hn;cases hx:kh t.names with
        | true=>
         simp only[hx,if_true] at hn;simp(disch:=first|exact aa0|fail) only[go_sem,Ey,Ia,d_a,d_b,d_c,hn]
        | false=>
         simp only[hx,aa8,if_false] at hn;simp(disch:=first|exact aa0|fail) only[go_sem,Ey,Ia,d_a,d_b,d_c,hn,hl]
def IP (t:Ty):Bool:=decide (EL 1 t≤150)
theorem G0 (t:Ty):evL cfg TW 0 [.d t.d] []=some (.d (.bool (IP t)),[]):=by
 have h1:=Ek _ t 1 (abn _) aa1;rw[show((1:Nat):Int)=1 from rfl] at h1
 rw[o_dw];simp(disch:=first|exact aa0|fail) only[go_sem,X_dw,Z3,h1,IP]
def Hd (s:Tx) (l:List Tx):Bool:=l.any fun x=>x==s
def li (ns:List Tx):Nat→List Tx→Bool
 |_,[]=>true
 |i,s::r=> !(s==[]||decide ((s.length:Int)>100))&& !Hd s (ns.take i)&&li ns (i+1) r
def um (t:Ty):Bool:=
 if t.kind==10 then(t.kids.length:Int)==1 else if t.kind==11 then(t.kids.length:Int)==2 else if t.kind==12 then(t.kids.length:Int)==t.names.length
 else if t.kind==13 then decide ((t.kids.length:Int)≥1)&&decide ((t.kids.length:Int)≤255) else(t.kids.length:Int)==0
def GM (t:Ty):Int:=
 if((t.kind==16||t.kind==17)&&(decide (t.len<1)||decide (t.len>4096)))||(!(t.kind==16||t.kind==17)&&t.len !=0) then 1
 else if t.kind==14 then(if decide (t.prec<1)||decide (t.prec>18)||decide (t.scale<0)||decide (t.scale>t.prec) then 1 else 0)
 else if t.prec !=0||t.scale !=0 then 1 else 0
def BT (t:Ty):Int:=
 if t.kind==5||t.kind==6 then 5 else if decide (t.kind<0)||decide (t.kind>17) then 1
 else if !um t||(t.kind !=12&&decide ((t.names.length:Int)>0)) then 1 else if li t.names 0 t.names then GM t else 1
theorem an9 (t:Ty) (hn:t.names.length<2 ^ 63) {s:Tx} {i:Nat} (hs:t.names[i]? =some s) {K:List Kf}:∀ (q:List Tx) (k:Nat),(t.names.take i).drop k=q→k≤i→i≤t.names.length→
  go CW (.c (.loop z8):: .b 3::K) ⟨[(1,.ref 0 1 0),(5,.d (.int .i64 ((i:Int)))),(6,.d (.int .i64 ((k:Int))))],Au 1 t⟩=
    if Hd s q then some (.d (.int .i64 (1)),[]) else go CW K ⟨[(1,.ref 0 1 0),(5,.d (.int .i64 ((i:Int)))),(6,.d (.int .i64 ((i:Int)))),(91,.d (.bool (false)))],Au 1 t⟩
 | [],k,hr,hk,hi=>by
  have h1:=de hr;rw[List.length_take] at h1;have:k=i:=aa1;subst this;have d_a:decide ((k:Int)<k)=false:=by simp<;>omega
  rw[go_loop,if_neg (by simp[Hd])]
  simp(disch:=first|exact aa0|fail) only[go_sem,CW,d_a,Au]
 | x::q,k,hr,hk,hi=>by
  obtain⟨hlt,hc,hr'⟩:=ej hr;rw[List.length_take] at hlt;have hc':t.names[k]? =some x:=by rw[List.getElem?_take_of_lt aa1] at hc;exact hc
  have d_a:decide ((k:Int)<i)=true:=by simp<;>omega
  have e1:(k:Int)+1=((k+1:Nat):Int):=aa1;have e2:Hd s (x::q)=((x==s)||Hd s q):=rfl;rw[go_loop,e2];rcases aa5 (x==s) with h|h
  · rw[if_pos (by rw[h];rfl)]
    simp(disch:=first|exact aa0|fail) only[go_sem,CW,d_a,hc',hs,Au,h]
  · have ih:=an9 t hn hs (K:=K) q (k+1) hr' aa1 hi
    rw[h,Bool.false_or,← ih];simp(disch:=first|exact aa0|fail) only[go_sem,CW,d_a,hc',hs,Au,h,e1]
theorem an8 (t:Ty) (hn:t.names.length<2 ^ 63) {K:List Kf}:∀ (r:List Tx) (i:Nat) (ex:List (Nat×V)),t.names.drop i=r→i≤t.names.length→
  go CW (.c (.loop av6):: .b 1::K) ⟨[(1,.ref 0 1 0),(5,.d (.int .i64 ((i:Int))))],Au 1 t⟩=
    if li t.names i r then go CW K ⟨[(1,.ref 0 1 0),(5,.d (.int .i64 ((t.names.length:Int)))),(71,.d (.bool (false)))],Au 1 t⟩ else some (.d (.int .i64 (1)),[])
 | [],i,ex,hr,hi=>by
  have h1:=de hr;have:i=t.names.length:=aa1;subst this;have d_a:decide ((t.names.length:Int)<t.names.length)=false:=by simp<;>omega
  rw[go_loop,li,if_pos rfl];simp(disch:=first|exact aa0|fail) only[go_sem,CW,d_a,Au]
 | s::r,i,ex,hr,hi=>by
  obtain⟨hlt,hc,hr'⟩:=ej hr;have d_a:decide ((i:Int)<t.names.length)=true:=by simp<;>omega
  have e1:(i:Int)+1=((i+1:Nat):Int):=aa1;have hin:=fun K=>an9 t hn hc (K:=K) (t.names.take i) 0 rfl (acj _) aa1
  simp only[Au,nc0] at hin;rw[go_loop,li];rcases aa5 (s==[]) with x|x
  · rw[x]
    simp(disch:=first|exact aa0|fail) only[go_sem,CW,d_a,hc,Au,x]
  · rcases aa5 (decide ((s.length:Int)>100)) with d_y|d_y<;>have p_y:=d_y<;>simp only[aa9,aa7,abm,aba,ne_eq] at p_y
    · rw[x,d_y]
      simp(disch:=first|exact aa0|fail) only[go_sem,CW,d_a,hc,Au,x,d_y]
    · cases hh:Hd s (t.names.take i) with
      | true=>
       simp only[hh,if_true] at hin;rw[x,d_y];simp(disch:=first|exact aa0|fail) only[go_sem,CW,d_a,hc,Au,x,d_y,hin]
      | false=>
       simp only[hh,aa8,if_false] at hin;have ih:=an8 t hn (K:=K) r (i+1) ex hr' aa1;simp only[Au] at ih;rw[x,d_y];simp(disch:=first|exact aa0|fail) only[go_sem,CW,d_a,hc,Au,x,d_y,hin,e1,ih]
theorem bet (k:Int):k=10∨k=11∨k=12∨k=13∨k=14∨k=16∨k=17∨((k==10)=false∧(k==11)=false∧(k==12)=false∧(k==13)=false∧(k==14)=false∧(k==16)=false∧(k==17)=false):=by
 simp only[aba,ne_eq];omega
theorem yh (t:Ty) (hn:t.names.length<2 ^ 63):evL cfg T4 0 [.d t.d] []=some (.d (.int .i64 (BT t)),[]):=by
 have hl:=fun K=>an8 t hn (K:=K) t.names 0 [] rfl (acj _)
 simp only[Au,nc0] at hl;rw[o_af];unfold BT um GM;cases hq:li t.names 0 t.names with
 | true=>
  simp only[hq,if_true] at hl;rcases bet t.kind with hk|hk|hk|hk|hk|hk|hk|⟨a,b,c,d,e,f,g⟩
  · simp only[hk] at hl ⊢
    simp(disch:=first|exact aa0|fail) only[go_sem,CW,Dx,hl,hk,bne]
    repeat' ((try rw[Aq])<;>split<;>rename_i hh<;>(try simp only[abh,abf,abb,abc] at hh)<;>(try simp(disch:=first|exact aa0|fail) only[*,go_sem,hl,hk,bne]))
  · simp only[hk] at hl ⊢
    simp(disch:=first|exact aa0|fail) only[go_sem,CW,Dx,hl,hk,bne]
    repeat' ((try rw[Aq])<;>split<;>rename_i hh<;>(try simp only[abh,abf,abb,abc] at hh)<;>(try simp(disch:=first|exact aa0|fail) only[*,go_sem,hl,hk,bne]))
  · simp only[hk] at hl ⊢
    simp(disch:=first|exact aa0|fail) only[go_sem,CW,Dx,hl,hk,bne]
    repeat' ((try rw[Aq])<;>split<;>rename_i hh<;>(try simp only[abh,abf,abb,abc] at hh)<;>(try simp(disch:=first|exact aa0|fail) only[*,go_sem,hl,hk,bne]))
  · simp only[hk] at hl ⊢
    simp(disch:=first|exact aa0|fail) only[go_sem,CW,Dx,hl,hk,bne]
    repeat' ((try rw[Aq])<;>split<;>rename_i hh<;>(try simp only[abh,abf,abb,abc] at hh)<;>(try simp(disch:=first|exact aa0|fail) only[*,go_sem,hl,hk,bne]))
  · simp only[hk] at hl ⊢
    simp(disch:=first|exact aa0|fail) only[go_sem,CW,Dx,hl,hk,bne]
    repeat' ((try rw[Aq])<;>split<;>rename_i hh<;>(try simp only[abh,abf,abb,abc] at hh)<;>(try simp(disch:=first|exact aa0|fail) only[*,go_sem,hl,hk,bne]))
  · simp only[hk] at hl ⊢
    simp(disch:=first|exact aa0|fail) only[go_sem,CW,Dx,hl,hk,bne]
    repeat' ((try rw[Aq])<;>split<;>rename_i hh<;>(try simp only[abh,abf,abb,abc] at hh)<;>(try simp(disch:=first|exact aa0|fail) only[*,go_sem,hl,hk,bne]))
  · simp only[hk] at hl ⊢
    simp(disch:=first|exact aa0|fail) only[go_sem,CW,Dx,hl,hk,bne]
    repeat' ((try rw[Aq])<;>split<;>rename_i hh<;>(try simp only[abh,abf,abb,abc] at hh)<;>(try simp(disch:=first|exact aa0|fail) only[*,go_sem,hl,hk,bne]))
  · simp(disch:=first|exact aa0|fail) only[go_sem,CW,Dx,hl,a,b,c,d,e,f,g,bne]
    repeat' ((try rw[Aq])<;>split<;>rename_i hh<;>(try simp only[abh,abf,abb,abc] at hh)<;>(try simp(disch:=first|exact aa0|fail) only[*,go_sem,hl,a,b,c,d,e,f,g,bne]))
 | false=>
  simp only[hq,aa8,if_false] at hl;rcases bet t.kind with hk|hk|hk|hk|hk|hk|hk|⟨a,b,c,d,e,f,g⟩
  · simp only[hk] at hl ⊢
    simp(disch:=first|exact aa0|fail) only[go_sem,CW,Dx,hl,hk,bne]
    repeat' ((try rw[Aq])<;>split<;>rename_i hh<;>(try simp only[abh,abf,abb,abc] at hh)<;>(try simp(disch:=first|exact aa0|fail) only[*,go_sem,hl,hk,bne]))
  · simp only[hk] at hl ⊢
    simp(disch:=first|exact aa0|fail) only[go_sem,CW,Dx,hl,hk,bne]
    repeat' ((try rw[Aq])<;>split<;>rename_i hh<;>(try simp only[abh,abf,abb,abc] at hh)<;>(try simp(disch:=first|exact aa0|fail) only[*,go_sem,hl,hk,bne]))
  · simp only[hk] at hl ⊢
    simp(disch:=first|exact aa0|fail) only[go_sem,CW,Dx,hl,hk,bne]
    repeat' ((try rw[Aq])<;>split<;>rename_i hh<;>(try simp only[abh,abf,abb,abc] at hh)<;>(try simp(disch:=first|exact aa0|fail) only[*,go_sem,hl,hk,bne]))
  · simp only[hk] at hl ⊢
    simp(disch:=first|exact aa0|fail) only[go_sem,CW,Dx,hl,hk,bne]
    repeat' ((try rw[Aq])<;>split<;>rename_i hh<;>(try simp only[abh,abf,abb,abc] at hh)<;>(try simp(disch:=first|exact aa0|fail) only[*,go_sem,hl,hk,bne]))
  · simp only[hk] at hl ⊢
    simp(disch:=first|exact aa0|fail) only[go_sem,CW,Dx,hl,hk,bne]
    repeat' ((try rw[Aq])<;>split<;>rename_i hh<;>(try simp only[abh,abf,abb,abc] at hh)<;>(try simp(disch:=first|exact aa0|fail) only[*,go_sem,hl,hk,bne]))
  · simp only[hk] at hl ⊢
    simp(disch:=first|exact aa0|fail) only[go_sem,CW,Dx,hl,hk,bne]
    repeat' ((try rw[Aq])<;>split<;>rename_i hh<;>(try simp only[abh,abf,abb,abc] at hh)<;>(try simp(disch:=first|exact aa0|fail) only[*,go_sem,hl,hk,bne]))
  · simp only[hk] at hl ⊢
    simp(disch:=first|exact aa0|fail) only[go_sem,CW,Dx,hl,hk,bne]
    repeat' ((try rw[Aq])<;>split<;>rename_i hh<;>(try simp only[abh,abf,abb,abc] at hh)<;>(try simp(disch:=first|exact aa0|fail) only[*,go_sem,hl,hk,bne]))
  · simp(disch:=first|exact aa0|fail) only[go_sem,CW,Dx,hl,a,b,c,d,e,f,g,bne]
    repeat' ((try rw[Aq])<;>split<;>rename_i hh<;>(try simp only[abh,abf,abb,abc] at hh)<;>(try simp(disch:=first|exact aa0|fail) only[*,go_sem,hl,a,b,c,d,e,f,g,bne]))
mutual
def Bk (deep:Nat) (n:Int):Ty→Int×Int
 | .mk k ns ks l p s=>if decide ((deep:Int)>16)||decide (n≥100) then(n,4) else if BT (.mk k ns ks l p s) !=0 then(n,BT (.mk k ns ks l p s)) else Cj (deep+1) (n+1) ks
def Cj (deep:Nat) (n:Int):List Ty→Int×Int
 | []=>(n,0)
 |k::r=>if(Bk deep n k).2 !=0 then Bk deep n k else Cj deep (Bk deep n k).1 r
end
theorem FE (deep:Nat) (n:Int) (t:Ty):Bk deep n t=if decide ((deep:Int)>16)||decide (n≥100) then(n,4) else if BT t !=0 then(n,BT t) else Cj (deep+1) (n+1) t.kids:=by
 cases t with
 |mk k ns ks l p s=>rw[Bk];rfl
theorem Ee (deep:Nat) (n:Int):Cj deep n []=(n,0):=by rw[Cj]
theorem DB (deep:Nat) (n:Int) (k:Ty) (r:List Ty):Cj deep n (k::r)=if(Bk deep n k).2 !=0 then Bk deep n k else Cj deep (Bk deep n k).1 r:=by rw[Cj]
theorem GC:∀ (m:Nat) (t:Ty) (deep:Nat) (n:Int),t.size≤m→n≤100→n≤(Bk deep n t).1∧(Bk deep n t).1≤100
 |0,t,deep,n,h,hn=>by have:=t.size_pos;omega
 | m+1,t,deep,n,h,hn=>by
  rw[FE];split
  · exact⟨Int.le_refl _,hn⟩
  · rename_i hc
    simp only[ab4,aa9,not_or] at hc;split
    · exact⟨Int.le_refl _,hn⟩
    · have key:∀ (r:List Ty) (n:Int),(∀ k∈r,k.size≤m)→n≤100→n≤(Cj (deep+1) n r).1∧(Cj (deep+1) n r).1≤100:=by
       intro r
       induction r with
       |nil=>intro n _ h;rw[Ee];exact⟨Int.le_refl _,h⟩
       | cons k r ih=>
        intro n hk h;have h1:=GC m k (deep+1) n (hk k aa3) h;rw[DB];split
        · exact h1
        · have h2:=ih (Bk (deep+1) n k).1 (fun x hx=>hk x (by simp[hx])) h1.2
          exact⟨by omega,h2.2⟩
      have:=key t.kids (n+1) (fun k hk=>by have:=Ty.Bu hk;omega) aa1
      exact⟨by omega,this.2⟩
def FP:Nat→Ty→Prop
 |0,_=>True
 |m+1,t=>t.names.length<2 ^ 63∧t.kids.length<2 ^ 63∧∀ k∈t.kids,FP m k
theorem Db (t:Ty) (deep:Nat) (hd:deep≤16) (hk:t.kids.length<2 ^ 63) (IH:∀ k∈t.kids,∀ n:Int,0≤n→n≤100→evL cfg Ha 0 [.d k.d,.d (.int .i64 (((deep+1:Nat):Int))),.d (.int .i64 (n))] []=some (.d (.tup [.int .i64 (Bk (deep+1) n k).1,.int .i64 (Bk (deep+1) n k).2]),[])):∀ (r:List Ty) (i:Nat) (n:Int),t.kids.drop i=r→i≤t.kids.length→0≤n→n≤100→
  go Hm [.c (.loop av3),.b 0,.c (.seq arj .ret)] ⟨[(1,.d (.int .i64 ((deep:Int)))),(2,.d (.int .i64 (n))),(3,.ref 0 3 0),(9,.d (.int .i64 ((i:Int))))],Au 3 t⟩=some (.d (.tup [.int .i64 (Cj (deep+1) n r).1,.int .i64 (Cj (deep+1) n r).2]),[])
 | [],i,n,hr,hi,h1,h2=>by
  have:=de hr;have:i=t.kids.length:=aa1;subst this;have d_a:decide ((t.kids.length:Int)<t.kids.length)=false:=by simp<;>omega
  rw[go_loop,Ee];simp(disch:=first|exact aa0|fail) only[go_sem,Hm,d_a,Au]
 | k::r,i,n,hr,hi,h1,h2=>by
  obtain⟨hlt,hc,hr'⟩:=ej hr;have hb:=GC _ k (deep+1) n (abn _) h2;have hf:=IH k (List.mem_of_getElem? hc) n h1 h2;have d_a:decide ((i:Int)<t.kids.length)=true:=by simp<;>omega
  have e1:(i:Int)+1=((i+1:Nat):Int):=aa1;have e2:(deep:Int)+1=((deep+1:Nat):Int):=aa1;rw[go_loop,DB];generalize Bk (deep+1) n k=q at *;rcases aa5 (q.2 !=0) with x|x
  · simp(disch:=first|exact aa0|fail) only[go_sem,Hm,d_a,hc,e2,hf,Au,x]
  · have ih:=Db t deep hd hk IH r (i+1) q.1 hr' aa1 aa1 hb.2
    simp only[Au] at ih;simp(disch:=first|exact aa0|fail) only[go_sem,Hm,d_a,hc,e2,hf,Au,x,e1,ih]
theorem D5:∀ (m:Nat) (t:Ty) (deep:Nat) (n:Int),t.size≤m→FP m t→deep≤17→0≤n→n≤100→evL cfg Ha 0 [.d t.d,.d (.int .i64 ((deep:Int))),.d (.int .i64 (n))] []=some (.d (.tup [.int .i64 (Bk deep n t).1,.int .i64 (Bk deep n t).2]),[])
 |0,t,deep,n,h,_,_,_,_=>by have:=t.size_pos;omega
 | m+1,t,deep,n,h,hs,hd,h1,h2=>by
  obtain⟨s1,s2,s3⟩:=hs;have ho:=yh t s1;rw[o_aq,FE];rcases aa5 (decide ((deep:Int)>16)) with d_a|d_a<;>have p_a:=d_a<;>simp only[aa9,aa7,abm,aba,ne_eq] at p_a
  · simp(disch:=first|exact aa0|fail) only[go_sem,Hm,SR,d_a]
  · rcases aa5 (decide (n≥100)) with d_b|d_b<;>have p_b:=d_b<;>simp only[aa9,aa7,abm,aba,ne_eq] at p_b
    · simp(disch:=first|exact aa0|fail) only[go_sem,Hm,SR,d_a,d_b]
    · rcases aa5 (BT t !=0) with x|x
      · simp(disch:=first|exact aa0|fail) only[go_sem,Hm,SR,d_a,d_b,ho,x]
      · have IH:∀ k∈t.kids,∀ n:Int,0≤n→n≤100→evL cfg Ha 0 [.d k.d,.d (.int .i64 (((deep+1:Nat):Int))),.d (.int .i64 (n))] []=some (.d (.tup [.int .i64 (Bk (deep+1) n k).1,.int .i64 (Bk (deep+1) n k).2]),[]):=
         fun k hk n g1 g2=>D5 m k (deep+1) n (by have:=Ty.Bu hk;omega) (s3 k hk) aa1 g1 g2
        have hl:=Db t deep aa1 s2 IH t.kids 0 (n+1) rfl (acj _) aa1 aa1;simp only[Au,nc0] at hl;simp(disch:=first|exact aa0|fail) only[go_sem,Hm,SR,d_a,d_b,ho,x,hl]
theorem Fw (t:Ty) (hs:FP t.size t):evL cfg Ta 0 [.d t.d] []=some (.d (.int .i64 ((Bk 1 0 t).2)),[]):=by
 have h1:=D5 _ t 1 0 (abn _) hs aa1 aa1 aa1;rw[show((1:Nat):Int)=1 from rfl] at h1
 rw[o_dj];simp(disch:=first|exact aa0|fail) only[go_sem,X_dj,aA,h1]
