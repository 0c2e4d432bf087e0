import Derived.Test.YtkdiccgfbfbjlaaGreatTyB
import Derived.Test.YtkdiccgfbfbjlaaGreatVaE
set_option linter.unusedSectionVars false
namespace Go.Proofs.YtkdiccgfbfbjlaaGreat
open Go Go.Ev
variable [Sh]
set_option maxHeartbeats 2000000
theorem xr (t:Ty) (v:Va) (i:Nat) (hi:i<2 ^ 63) {x:Ty} (h:Dy t v.i i=some x):evL cfg RR 0 [.d t.d,.d v.d,.d (.int .i64 ((i:Int)))] []=some (.d x.d,[]):=by
 rw[o_cr];unfold Dy at h;rcases ab2 ((t.kind==10)) with d_a|d_a<;>have p_a:=d_a<;>simp only[ab4,ab3,acg,ab6,ne_eq] at p_a
 · rw[d_a,if_pos rfl] at h
   simp(disch:=first|exact abt|fail) only[go_sem,WL,QB,d_a,h]
 · rw[d_a,if_neg abx] at h
   rcases ab2 ((t.kind==11)) with d_b|d_b<;>have p_b:=d_b<;>simp only[ab4,ab3,acg,ab6,ne_eq] at p_b
   · rw[d_b,if_pos rfl] at h
     simp(disch:=first|exact abt|fail) only[go_sem,WL,QB,d_a,d_b,h,i6,xf]
   · rw[d_b,if_neg abx] at h
     rcases ab2 ((t.kind==13)) with d_c|d_c<;>have p_c:=d_c<;>simp only[ab4,ab3,acg,ab6,ne_eq] at p_c
     · rw[d_c,if_pos rfl] at h
       rcases ab2 (decide (v.i<0)) with d_e|d_e<;>have p_e:=d_e<;>simp only[ab4,ab3,acg,ab6,ne_eq] at p_e
       · rw[d_e,if_pos rfl] at h;cases h
       · rw[d_e,if_neg abx] at h
         obtain⟨n,hn⟩:∃ n:Nat,v.i=n:=⟨v.i.toNat,by omega⟩
         rw[hn,adv] at h;simp(disch:=first|exact abt|fail) only[go_sem,WL,QB,d_a,d_b,d_c,hn,h]
     · rw[d_c,if_neg abx] at h
       simp(disch:=first|exact abt|fail) only[go_sem,WL,QB,d_a,d_b,d_c,h]
theorem asj (t:Ty) (v:Va):Cn t v=if As t v !=0 then As t v else if v.null then 0 else De t v.i 0 v.kids:=by
 cases v with
 |mk nl i n b ks=>rw[Cn];rfl
theorem ba6 (t:Ty) (vi:Int) (j:Nat):De t vi j []=0:=by rw[De]
theorem r8 (t:Ty) (vi:Int) (j:Nat) (k:Va) (r:List Va):De t vi j (k::r)=if t.kind==11&&j % 2==0&&k.null then 1 else match Dy t vi j with
 |none=>0
 |some x=>if Cn x k !=0 then Cn x k else De t vi (j+1) r:=by rw[De];rfl
def Gp:Nat→Ty→Prop
 |0,_=>True
 |m+1,t=>B1 t=0∧∀ k∈t.kids,Gp m k
theorem Uf {t:Ty} (h:B1 t=0):Fa t=true:=by
 unfold B1 at h;cases hk:Fa t with
 |true=>rfl
 | false=>
  rw[hk] at h;split at h
  · cases h
  · split at h
    · cases h
    · simp at h
theorem zg {t:Ty} {v:Va} {j:Nat} (h:B1 t=0) (hn:As t v=0) (hv:v.null=false) (hj:j<v.kids.length):∃ x,Dy t v.i j=some x∧x∈t.kids:=by
 have hk:=Uf h;unfold As at hn;rw[hv] at hn;simp only[acb,if_false] at hn;split at hn
 · cases hn
 · rename_i h1
   simp only[acu,not_or,aca,not_and,ab4,acd,acj,ack] at h1;split at hn
   · cases hn
   · have hl:FE t.kind=false:=h1.2 abu
     have get:∀ i,i<t.kids.length→∃ x,t.kids[i]? =some x∧x∈t.kids:=fun i hi=>⟨_,ab0 hi,List.getElem_mem hi⟩
     unfold Dy;unfold Fa at hk;unfold FB at hn;rcases ab2 ((t.kind==10)) with d_a|d_a<;>have p_a:=d_a<;>simp only[ab4,ab3,acg,ab6,ne_eq] at p_a
     · rw[d_a,if_pos rfl] at hk ⊢
       simp only[acg] at hk;exact get 0 abu
     · rw[d_a,if_neg abx] at hk ⊢
       rw[d_a,if_neg abx] at hn;rcases ab2 ((t.kind==11)) with d_b|d_b<;>have p_b:=d_b<;>simp only[ab4,ab3,acg,ab6,ne_eq] at p_b
       · rw[d_b,if_pos rfl] at hk ⊢
         simp only[acg] at hk;exact get (j % 2) abu
       · rw[d_b,if_neg abx] at hk ⊢
         rw[d_b,if_neg abx] at hn;rcases ab2 ((t.kind==13)) with d_c|d_c<;>have p_c:=d_c<;>simp only[ab4,ab3,acg,ab6,ne_eq] at p_c
         · rw[d_c,if_pos rfl]
           have hnum:=h1.1.1;unfold Hk at hnum;simp only[aca] at hnum;have hnum:=hnum.2;unfold EX at hnum;have k0:(t.kind==0)=false:=by rw[p_c];rfl
           simp only[p_c] at hnum;simp only[show((13:Int)==0)=false from rfl,show((13:Int)==1)=false from rfl,show((13:Int)==2)=false from rfl,show((13:Int)==3)=false from rfl,show((13:Int)==15)=false from rfl,show((13:Int)==4)=false from rfl,show((13:Int)==14)=false from rfl,show((13:Int)==9)=false from rfl,show((13:Int)==13)=true from rfl,Bool.or_self,acb,if_false,if_true,aca,ab4] at hnum
           rw[if_neg (by simp;omega)]
           exact get v.i.toNat abu
         · rw[d_c,if_neg abx]
           rcases ab2 ((t.kind==12)) with d_e|d_e<;>have p_e:=d_e<;>simp only[ab4,ab3,acg,ab6,ne_eq] at p_e
           · rw[d_e,if_pos rfl] at hn
             split at hn
             · cases hn
             · rename_i h5
               simp only[bne_iff_ne,ne_eq,Classical.not_not] at h5;exact get j abu
           · exfalso
             unfold FE at hl;rw[d_a,d_b,d_c,d_e] at hl;cases hl
theorem jp (t:Ty) (v:Va) (hv0:v.null=false) (hv:v.kids.length<2 ^ 63) (hg:∀ j,j<v.kids.length→∃ x,Dy t v.i j=some x∧x∈t.kids) (IH:∀ k∈v.kids,∀ x∈t.kids,evL cfg Hv 0 [.d x.d,.d k.d] []=some (.d (.int .i64 (Cn x k)),[])):∀ (r:List Va) (j:Nat),v.kids.drop j=r→j≤v.kids.length→
  go IM [.c (.loop aru),.b 1,.c (.seq ape .ret)] ⟨[(2,.ref 0 2 0),(3,.ref 0 3 0),(5,.d (.int .i64 ((v.kids.length:Int)))),(6,.d (.int .i64 ((j:Int))))],BH 2 t++SI 3 false v⟩=some (.d (.int .i64 (De t v.i j r)),[])
 | [],j,hr,hj=>by
  have h1:=aq hr;have:j=v.kids.length:=abu;subst this;have d_a:decide ((v.kids.length:Int)<v.kids.length)=false:=by simp<;>omega
  rw[go_loop,ba6];simp(disch:=first|exact abt|fail) only[go_sem,IM,d_a,BH,SI]
 | k::r,j,hr,hj=>by
  obtain⟨hlt,hc,hr'⟩:=ba hr;obtain⟨x,hx,hxm⟩:=hg j hlt;have hk:=IH k (List.mem_of_getElem? hc) x hxm;have hkid:=xr t v j abu hx;have ih:=jp t v hv0 hv hg IH r (j+1) hr' abu;simp only[BH,SI,List.cons_append,List.nil_append] at ih;have d_a:decide ((j:Int)<v.kids.length)=true:=by simp<;>omega
  have e1:(j:Int)+1=((j+1:Nat):Int):=abu;have e2:(((j % 2:Nat):Int)==0)=(j % 2==0):=by
   rcases Nat.mod_two_eq_zero_or_one j with h|h<;>rw[h]<;>rfl
  rw[go_loop,r8,hx];simp(disch:=first|exact abt|fail) only[go_sem,IM,d_a,hc,hkid,hk,BH,SI,e1,e2,ih,i6,xf,bne]
  repeat' ((try rw[A7])<;>split<;>rename_i hh<;>(try simp only[ack,acj,acd,ace] at hh)<;>(try simp(disch:=first|exact abt|fail) only[*,go_sem,IM,d_a,hc,hkid,hk,BH,SI,e1,e2,ih,i6,xf,bne]))
theorem jz:∀ (n:Nat) (v:Va) (t:Ty),v.size≤n→okV v→Gp n t→evL cfg Hv 0 [.d t.d,.d v.d] []=some (.d (.int .i64 (Cn t v)),[])
 |0,v,t,h,_,_=>by have:=v.size_pos;omega
 | n+1,v,t,h,hv,hg=>by
  obtain⟨h1,h2,h3,h4⟩:=(GF v).1 hv;have IH:∀ k∈v.kids,∀ x∈t.kids,evL cfg Hv 0 [.d x.d,.d k.d] []=some (.d (.int .i64 (Cn x k)),[]):=fun k hk x hx=>jz n k x (by have:=Va.A8 hk;omega) (DJ h4 hk) (hg.2 x hx)
  have hnum:evL cfg Pv 0 [.d t.d,.d (.int .i64 (v.i)),.d (.int .i64 (v.n))] []=some (.d (.bool (Hk t v.i v.n)),[]):=ov t v.i v.n h1;have hsg:=ry h2;rw[o_ae,asj];cases hnl:v.null with
  | true=>
   have e:As t v=if v.i !=0||v.n !=0||decide ((v.b.length:Int)>0)||decide ((v.kids.length:Int)>0) then 1 else 0:=by unfold As;rw[hnl];rfl
   rw[e];simp(disch:=first|exact abt|fail) only[go_sem,IM,SH,hnl,bne]
   repeat' ((try rw[A7])<;>split<;>rename_i hh<;>(try simp only[ack,acj,acd,ace] at hh)<;>(try simp(disch:=first|exact abt|fail) only[*,go_sem,hnl,bne]))
  | false=>
   by_cases hz:As t v=0
   · have hl:=jp t v hnl h3 (fun j hj=>zg hg.1 hz hnl hj) IH v.kids 0 rfl (aco _)
     simp only[BH,SI,List.cons_append,List.nil_append,nc0] at hl;rw[hz,if_neg abx];unfold As FB at hz;rw[hnl] at hz;simp(disch:=first|exact abt|fail) only[go_sem,IM,SH,hnl,hnum,hsg,cz,dw,hl,i6,bne]
     repeat' ((try rw[A7])<;>split<;>rename_i hh<;>(try simp only[ack,acj,acd,ace] at hh)<;>(try simp(disch:=first|exact abt|fail) only[*,go_sem,hnl,hnum,hsg,cz,dw,hl,i6,bne]))
     all_goals (exfalso;revert hz;simp(disch:=first|omega|fail) only[*,go_sem,bne,Int.reduceEq,Int.reduceNeg,imp_false,ac2,ac8,forall_const,implies_true])
   · have hz':(As t v !=0)=true:=by simpa using hz
     rw[hz',if_pos rfl];unfold As FB at hz ⊢;rw[hnl] at hz ⊢;simp(disch:=first|exact abt|fail) only[go_sem,IM,SH,hnl,hnum,hsg,cz,dw,i6,bne]
     repeat' ((try rw[A7])<;>split<;>rename_i hh<;>(try simp only[ack,acj,acd,ace] at hh)<;>(try simp(disch:=first|exact abt|fail) only[*,go_sem,hnl,hnum,hsg,cz,dw,i6,bne]))
     all_goals (exfalso;revert hz;simp(disch:=first|omega|fail) only[*,go_sem,bne,Int.reduceEq,Int.reduceNeg,imp_false,ac2,ac8,forall_const,implies_true])
