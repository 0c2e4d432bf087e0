import Derived.Test.YtpnhljhciibfnaaGreatDoorTyB
set_option linter.unusedSimpArgs false
namespace Go.Proofs.YtpnhljhciibfnaaGreatDoor
open Go Go.Ev
set_option maxHeartbeats 2000000
theorem yg (t:Ty) (v:Va) (i:Nat) (hi:i<2 ^ 63) {x:Ty} (h:Fz t v.i i=some x):evL cfg Tm 0 [.d t.d,.d v.d,.d (.int .i64 ((i:Int)))] []=some (.d x.d,[]):=by
 rw[o_bx];unfold Fz at h;rcases aa5 ((t.kind==10)) with d_a|d_a<;>have p_a:=d_a<;>simp only[aa9,aa7,abm,aba,ne_eq] at p_a
 · rw[d_a,if_pos rfl] at h
   simp(disch:=first|exact aa0|fail) only[go_sem,Xk,SO,d_a,h]
 · rw[d_a,if_neg aa4] at h
   rcases aa5 ((t.kind==11)) with d_b|d_b<;>have p_b:=d_b<;>simp only[aa9,aa7,abm,aba,ne_eq] at p_b
   · rw[d_b,if_pos rfl] at h
     simp(disch:=first|exact aa0|fail) only[go_sem,Xk,SO,d_a,d_b,h,gr,ji]
   · rw[d_b,if_neg aa4] at h
     rcases aa5 ((t.kind==13)) with d_c|d_c<;>have p_c:=d_c<;>simp only[aa9,aa7,abm,aba,ne_eq] at p_c
     · rw[d_c,if_pos rfl] at h
       rcases aa5 (decide (v.i<0)) with d_e|d_e<;>have p_e:=d_e<;>simp only[aa9,aa7,abm,aba,ne_eq] at p_e
       · rw[d_e,if_pos rfl] at h;cases h
       · rw[d_e,if_neg aa4] at h
         obtain⟨n,hn⟩:∃ n:Nat,v.i=n:=⟨v.i.toNat,by omega⟩
         rw[hn,abt] at h;simp(disch:=first|exact aa0|fail) only[go_sem,Xk,SO,d_a,d_b,d_c,hn,h]
     · rw[d_c,if_neg aa4] at h
       simp(disch:=first|exact aa0|fail) only[go_sem,Xk,SO,d_a,d_b,d_c,h]
def tu (t:Ty) (n:Int):Int:=
 if t.kind==10 then(if decide (n>16384) then 4 else 0)
 else if t.kind==11 then(if n.tmod 2 !=0 then 1 else if decide (n>32768) then 4 else 0)
 else if t.kind==12 then(if n !=t.kids.length then 1 else 0)
 else if t.kind==13 then(if n !=1 then 1 else 0)
 else 0
def Hw (t:Ty) (i n:Int):Bool:= !(n !=0&&t.kind !=9)&&d7 t i n
def cl (t:Ty) (v:Va):Int:=
 if v.null then(if v.i !=0||v.n !=0||decide ((v.b.length:Int)>0)||decide ((v.kids.length:Int)>0) then 1 else 0)
 else if !Hw t v.i v.n||(decide ((v.b.length:Int)>0)&& !BV t.kind)||(decide ((v.kids.length:Int)>0)&&DP t.kind) then 1
 else if decide ((v.b.length:Int)>4096)||((t.kind==16||t.kind==17)&&decide ((jw v.b:Int)>t.len)) then 4
 else tu t v.kids.length
mutual
def CM (t:Ty):Va→Int
 | .mk nl i n b ks=>if cl t (.mk nl i n b ks) !=0 then cl t (.mk nl i n b ks) else if nl then 0 else pg t i 0 ks
def pg (t:Ty) (vi:Int) (j:Nat):List Va→Int
 | []=>0
 | k::r=>if t.kind==11&&j % 2==0&&k.null then 1 else match Fz t vi j with
  |none=>0
  |some x=>if CM x k !=0 then CM x k else pg t vi (j+1) r
end
theorem GQ (t:Ty) (v:Va):CM t v=if cl t v !=0 then cl t v else if v.null then 0 else pg t v.i 0 v.kids:=by
 cases v with
 |mk nl i n b ks=>rw[CM];rfl
theorem GP (t:Ty) (vi:Int) (j:Nat):pg t vi j []=0:=by rw[pg]
theorem Hv (t:Ty) (vi:Int) (j:Nat) (k:Va) (r:List Va):pg t vi j (k::r)=if t.kind==11&&j % 2==0&&k.null then 1 else match Fz t vi j with
 |none=>0
 |some x=>if CM x k !=0 then CM x k else pg t vi (j+1) r:=by rw[pg]
def Sn:Nat→Ty→Prop
 |0,_=>True
 |m+1,t=>BT t=0∧∀ k∈t.kids,Sn m k
theorem WG {t:Ty} (h:BT t=0):um t=true:=by
 unfold BT at h;cases hk:um t with
 |true=>rfl
 | false=>
  rw[hk] at h;split at h
  · cases h
  · split at h
    · cases h
    · simp at h
theorem WH {t:Ty} {v:Va} {j:Nat} (h:BT t=0) (hn:cl t v=0) (hv:v.null=false) (hj:j<v.kids.length):∃ x,Fz t v.i j=some x∧x∈t.kids:=by
 have hk:=WG h;unfold cl at hn;rw[hv] at hn;simp only[aa8,if_false] at hn;split at hn
 · cases hn
 · rename_i h1
   simp only[ab4,not_or,abe,not_and,aa9,abb,abf,abh] at h1;split at hn
   · cases hn
   · have hl:DP t.kind=false:=h1.2 aa1
     have get:∀ i,i<t.kids.length→∃ x,t.kids[i]? =some x∧x∈t.kids:=fun i hi=>⟨_,abd hi,List.getElem_mem hi⟩
     unfold Fz;unfold um at hk;unfold tu at hn;rcases aa5 ((t.kind==10)) with d_a|d_a<;>have p_a:=d_a<;>simp only[aa9,aa7,abm,aba,ne_eq] at p_a
     · rw[d_a,if_pos rfl] at hk ⊢
       simp only[abm] at hk;exact get 0 aa1
     · rw[d_a,if_neg aa4] at hk ⊢
       rw[d_a,if_neg aa4] at hn;rcases aa5 ((t.kind==11)) with d_b|d_b<;>have p_b:=d_b<;>simp only[aa9,aa7,abm,aba,ne_eq] at p_b
       · rw[d_b,if_pos rfl] at hk ⊢
         simp only[abm] at hk;exact get (j % 2) aa1
       · rw[d_b,if_neg aa4] at hk ⊢
         rw[d_b,if_neg aa4] at hn;rcases aa5 ((t.kind==13)) with d_c|d_c<;>have p_c:=d_c<;>simp only[aa9,aa7,abm,aba,ne_eq] at p_c
         · rw[d_c,if_pos rfl]
           have hnum:=h1.1.1;unfold Hw at hnum;simp only[abe] at hnum;have hnum:=hnum.2;unfold d7 at hnum;have k0:(t.kind==0)=false:=by rw[p_c];rfl
           simp only[p_c] at hnum;simp only[show((13:Int)==0)=false from rfl,show((13:Int)==1)=false from rfl,show((13:Int)==2)=false from rfl,show((13:Int)==3)=false from rfl,show((13:Int)==15)=false from rfl,show((13:Int)==4)=false from rfl,show((13:Int)==14)=false from rfl,show((13:Int)==9)=false from rfl,show((13:Int)==13)=true from rfl,Bool.or_self,aa8,if_false,if_true,abe,aa9] at hnum
           rw[if_neg (by simp;omega)]
           exact get v.i.toNat aa1
         · rw[d_c,if_neg aa4]
           rcases aa5 ((t.kind==12)) with d_e|d_e<;>have p_e:=d_e<;>simp only[aa9,aa7,abm,aba,ne_eq] at p_e
           · rw[d_e,if_pos rfl] at hn
             split at hn
             · cases hn
             · rename_i h5
               simp only[bne_iff_ne,ne_eq,Classical.not_not] at h5;exact get j aa1
           · exfalso
             unfold DP at hl;rw[d_a,d_b,d_c,d_e] at hl;cases hl
theorem Da (t:Ty) (v:Va) (hv0:v.null=false) (hv:v.kids.length<2 ^ 63) (hg:∀ j,j<v.kids.length→∃ x,Fz t v.i j=some x∧x∈t.kids) (IH:∀ k∈v.kids,∀ x∈t.kids,evL cfg Fy 0 [.d x.d,.d k.d] []=some (.d (.int .i64 (CM x k)),[])):∀ (r:List Va) (j:Nat),v.kids.drop j=r→j≤v.kids.length→
  go Io [.c (.loop av5),.b 1,.c (.seq arx .ret)] ⟨[(2,.ref 0 2 0),(3,.ref 0 3 0),(5,.d (.int .i64 ((v.kids.length:Int)))),(6,.d (.int .i64 ((j:Int))))],Au 2 t++ES 3 false v⟩=some (.d (.int .i64 (pg t v.i j r)),[])
 | [],j,hr,hj=>by
  have h1:=de hr;have:j=v.kids.length:=aa1;subst this;have d_a:decide ((v.kids.length:Int)<v.kids.length)=false:=by simp<;>omega
  rw[go_loop,GP];simp(disch:=first|exact aa0|fail) only[go_sem,Io,d_a,Au,ES]
 | k::r,j,hr,hj=>by
  obtain⟨hlt,hc,hr'⟩:=ej hr;obtain⟨x,hx,hxm⟩:=hg j hlt;have hk:=IH k (List.mem_of_getElem? hc) x hxm;have hkid:=yg t v j aa1 hx;have ih:=Da t v hv0 hv hg IH r (j+1) hr' aa1;simp only[Au,ES,List.cons_append,List.nil_append] at ih;have d_a:decide ((j:Int)<v.kids.length)=true:=by simp<;>omega
  have e1:(j:Int)+1=((j+1:Nat):Int):=aa1;have e2:(((j % 2:Nat):Int)==0)=(j % 2==0):=by
   rcases Nat.mod_two_eq_zero_or_one j with h|h<;>rw[h]<;>rfl
  rw[go_loop,Hv,hx];simp(disch:=first|exact aa0|fail) only[go_sem,Io,d_a,hc,hkid,hk,Au,ES,e1,e2,ih,gr,ji,bne]
  repeat' ((try rw[Aq])<;>split<;>rename_i hh<;>(try simp only[abh,abf,abb,abc] at hh)<;>(try simp(disch:=first|exact aa0|fail) only[*,go_sem,Io,d_a,hc,hkid,hk,Au,ES,e1,e2,ih,gr,ji,bne]))
theorem A4:∀ (n:Nat) (v:Va) (t:Ty),v.size≤n→okV v→Sn n t→evL cfg Fy 0 [.d t.d,.d v.d] []=some (.d (.int .i64 (CM t v)),[])
 |0,v,t,h,_,_=>by have:=v.size_pos;omega
 | n+1,v,t,h,hv,hg=>by
  obtain⟨h1,h2,h3,h4⟩:=(CA v).1 hv;have IH:∀ k∈v.kids,∀ x∈t.kids,evL cfg Fy 0 [.d x.d,.d k.d] []=some (.d (.int .i64 (CM x k)),[]):=fun k hk x hx=>A4 n k x (by have:=Va.Bu hk;omega) (E5 h4 hk) (hg.2 x hx)
  have hnum:evL cfg R5 0 [.d t.d,.d (.int .i64 (v.i)),.d (.int .i64 (v.n))] []=some (.d (.bool (Hw t v.i v.n)),[]):=qp t v.i v.n h1;have hsg:=tw h2;rw[o_ag,GQ];cases hnl:v.null with
  | true=>
   have e:cl t v=if v.i !=0||v.n !=0||decide ((v.b.length:Int)>0)||decide ((v.kids.length:Int)>0) then 1 else 0:=by unfold cl;rw[hnl];rfl
   rw[e];simp(disch:=first|exact aa0|fail) only[go_sem,Io,UK,hnl,bne]
   repeat' ((try rw[Aq])<;>split<;>rename_i hh<;>(try simp only[abh,abf,abb,abc] at hh)<;>(try simp(disch:=first|exact aa0|fail) only[*,go_sem,hnl,bne]))
  | false=>
   by_cases hz:cl t v=0
   · have hl:=Da t v hnl h3 (fun j hj=>WH hg.1 hz hnl hj) IH v.kids 0 rfl (acj _)
     simp only[Au,ES,List.cons_append,List.nil_append,nc0] at hl;rw[hz,if_neg aa4];unfold cl tu at hz;rw[hnl] at hz;simp(disch:=first|exact aa0|fail) only[go_sem,Io,UK,hnl,hnum,hsg,cq,dy,hl,gr,bne]
     repeat' ((try rw[Aq])<;>split<;>rename_i hh<;>(try simp only[abh,abf,abb,abc] at hh)<;>(try simp(disch:=first|exact aa0|fail) only[*,go_sem,hnl,hnum,hsg,cq,dy,hl,gr,bne]))
     all_goals (exfalso;revert hz;simp(disch:=first|omega|fail) only[*,go_sem,bne,Int.reduceEq,Int.reduceNeg,imp_false,abp,ab7,forall_const,implies_true])
   · have hz':(cl t v !=0)=true:=by simpa using hz
     rw[hz',if_pos rfl];unfold cl tu at hz ⊢;rw[hnl] at hz ⊢;simp(disch:=first|exact aa0|fail) only[go_sem,Io,UK,hnl,hnum,hsg,cq,dy,gr,bne]
     repeat' ((try rw[Aq])<;>split<;>rename_i hh<;>(try simp only[abh,abf,abb,abc] at hh)<;>(try simp(disch:=first|exact aa0|fail) only[*,go_sem,hnl,hnum,hsg,cq,dy,gr,bne]))
     all_goals (exfalso;revert hz;simp(disch:=first|omega|fail) only[*,go_sem,bne,Int.reduceEq,Int.reduceNeg,imp_false,abp,ab7,forall_const,implies_true])
