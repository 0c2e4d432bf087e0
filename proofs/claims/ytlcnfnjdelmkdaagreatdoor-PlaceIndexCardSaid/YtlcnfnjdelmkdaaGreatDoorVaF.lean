import Derived.Test.YtlcnfnjdelmkdaaGreatDoorTyB
namespace Go.Proofs.YtlcnfnjdelmkdaaGreatDoor
open Go Go.Ev
set_option maxHeartbeats 2000000
theorem wg (t:Ty) (v:Va) (i:Nat) (hi:i<2 ^ 63) {x:Ty} (h:kidT t v.i i=some x):evL cfg n_bv 0 [.d t.d,.d v.d,.d (.int .i64 ((i:Int)))] []=some (.d x.d,[]):=by
 rw[o_bv];unfold kidT at h;rcases zf ((t.kind==10)) with d_a|d_a<;>have p_a:=d_a<;>simp only[zm,zl,aaa,zp,ne_eq] at p_a
 · rw[d_a,if_pos rfl] at h
   simp(disch:=first|exact y7|fail) only[go_sem,X_bv,c_bv,d_a,h]
 · rw[d_a,if_neg ze] at h
   rcases zf ((t.kind==11)) with d_b|d_b<;>have p_b:=d_b<;>simp only[zm,zl,aaa,zp,ne_eq] at p_b
   · rw[d_b,if_pos rfl] at h
     simp(disch:=first|exact y7|fail) only[go_sem,X_bv,c_bv,d_a,d_b,h,d7,ip]
   · rw[d_b,if_neg ze] at h
     rcases zf ((t.kind==13)) with d_c|d_c<;>have p_c:=d_c<;>simp only[zm,zl,aaa,zp,ne_eq] at p_c
     · rw[d_c,if_pos rfl] at h
       rcases zf (decide (v.i<0)) with d_e|d_e<;>have p_e:=d_e<;>simp only[zm,zl,aaa,zp,ne_eq] at p_e
       · rw[d_e,if_pos rfl] at h;cases h
       · rw[d_e,if_neg ze] at h
         obtain⟨n,hn⟩:∃ n:Nat,v.i=n:=⟨v.i.toNat,by omega⟩
         rw[hn,zx] at h;simp(disch:=first|exact y7|fail) only[go_sem,X_bv,c_bv,d_a,d_b,d_c,hn,h]
     · rw[d_c,if_neg ze] at h
       simp(disch:=first|exact y7|fail) only[go_sem,X_bv,c_bv,d_a,d_b,d_c,h]
def ry (t:Ty) (n:Int):Int:=
 if t.kind==10 then(if decide (n>16384) then 4 else 0)
 else if t.kind==11 then(if n.tmod 2 !=0 then 1 else if decide (n>32768) then 4 else 0)
 else if t.kind==12 then(if n !=t.kids.length then 1 else 0)
 else if t.kind==13 then(if n !=1 then 1 else 0)
 else 0
def numsM (t:Ty) (i n:Int):Bool:= !(n !=0&&t.kind !=9)&&ja t i n
def cr (t:Ty) (v:Va):Int:=
 if v.null then(if v.i !=0||v.n !=0||decide ((v.b.length:Int)>0)||decide ((v.kids.length:Int)>0) then 1 else 0)
 else if !numsM t v.i v.n||(decide ((v.b.length:Int)>0)&& !textK t.kind)||(decide ((v.kids.length:Int)>0)&&leafK t.kind) then 1
 else if decide ((v.b.length:Int)>4096)||((t.kind==16||t.kind==17)&&decide ((je v.b:Int)>t.len)) then 4
 else ry t v.kids.length
mutual
def rchkV (t:Ty):Va→Int
 | .mk nl i n b ks=>if cr t (.mk nl i n b ks) !=0 then cr t (.mk nl i n b ks) else if nl then 0 else od t i 0 ks
def od (t:Ty) (vi:Int) (j:Nat):List Va→Int
 | []=>0
 | k::r=>if t.kind==11&&j % 2==0&&k.null then 1 else match kidT t vi j with
  |none=>0
  |some x=>if rchkV x k !=0 then rchkV x k else od t vi (j+1) r
end
theorem rchkV_eq (t:Ty) (v:Va):rchkV t v=if cr t v !=0 then cr t v else if v.null then 0 else od t v.i 0 v.kids:=by
 cases v with
 |mk nl i n b ks=>rw[rchkV];rfl
theorem rchkVs_nil (t:Ty) (vi:Int) (j:Nat):od t vi j []=0:=by rw[od]
theorem rchkVs_cons (t:Ty) (vi:Int) (j:Nat) (k:Va) (r:List Va):od t vi j (k::r)=if t.kind==11&&j % 2==0&&k.null then 1 else match kidT t vi j with
 |none=>0
 |some x=>if rchkV x k !=0 then rchkV x k else od t vi (j+1) r:=by rw[od]
def goodT:Nat→Ty→Prop
 |0,_=>True
 |m+1,t=>ownM t=0∧∀ k∈t.kids,goodT m k
theorem kids_own {t:Ty} (h:ownM t=0):sg t=true:=by
 unfold ownM at h;cases hk:sg t with
 |true=>rfl
 | false=>
  rw[hk] at h;split at h
  · cases h
  · split at h
    · cases h
    · simp at h
theorem kid_good {t:Ty} {v:Va} {j:Nat} (h:ownM t=0) (hn:cr t v=0) (hv:v.null=false) (hj:j<v.kids.length):∃ x,kidT t v.i j=some x∧x∈t.kids:=by
 have hk:=kids_own h;unfold cr at hn;rw[hv] at hn;simp only[zh,if_false] at hn;split at hn
 · cases hn
 · rename_i h1
   simp only[aan,not_or,zw,not_and,zm,zk,zq,zu] at h1;split at hn
   · cases hn
   · have hl:leafK t.kind=false:=h1.2 y8
     have get:∀ i,i<t.kids.length→∃ x,t.kids[i]? =some x∧x∈t.kids:=fun i hi=>⟨_,zo hi,List.getElem_mem hi⟩
     unfold kidT;unfold sg at hk;unfold ry at hn;rcases zf ((t.kind==10)) with d_a|d_a<;>have p_a:=d_a<;>simp only[zm,zl,aaa,zp,ne_eq] at p_a
     · rw[d_a,if_pos rfl] at hk ⊢
       simp only[aaa] at hk;exact get 0 y8
     · rw[d_a,if_neg ze] at hk ⊢
       rw[d_a,if_neg ze] at hn;rcases zf ((t.kind==11)) with d_b|d_b<;>have p_b:=d_b<;>simp only[zm,zl,aaa,zp,ne_eq] at p_b
       · rw[d_b,if_pos rfl] at hk ⊢
         simp only[aaa] at hk;exact get (j % 2) y8
       · rw[d_b,if_neg ze] at hk ⊢
         rw[d_b,if_neg ze] at hn;rcases zf ((t.kind==13)) with d_c|d_c<;>have p_c:=d_c<;>simp only[zm,zl,aaa,zp,ne_eq] at p_c
         · rw[d_c,if_pos rfl]
           have hnum:=h1.1.1;unfold numsM at hnum;simp only[zw] at hnum;have hnum:=hnum.2;unfold ja at hnum;have k0:(t.kind==0)=false:=by rw[p_c];rfl
           simp only[p_c] at hnum;simp only[show((13:Int)==0)=false from rfl,show((13:Int)==1)=false from rfl,show((13:Int)==2)=false from rfl,show((13:Int)==3)=false from rfl,show((13:Int)==15)=false from rfl,show((13:Int)==4)=false from rfl,show((13:Int)==14)=false from rfl,show((13:Int)==9)=false from rfl,show((13:Int)==13)=true from rfl,Bool.or_self,zh,if_false,if_true,zw,zm] at hnum
           rw[if_neg (by simp;omega)]
           exact get v.i.toNat y8
         · rw[d_c,if_neg ze]
           rcases zf ((t.kind==12)) with d_e|d_e<;>have p_e:=d_e<;>simp only[zm,zl,aaa,zp,ne_eq] at p_e
           · rw[d_e,if_pos rfl] at hn
             split at hn
             · cases hn
             · rename_i h5
               simp only[bne_iff_ne,ne_eq,Classical.not_not] at h5;exact get j y8
           · exfalso
             unfold leafK at hl;rw[d_a,d_b,d_c,d_e] at hl;cases hl
theorem ref14_Check_loop (t:Ty) (v:Va) (hv0:v.null=false) (hv:v.kids.length<2 ^ 63) (hg:∀ j,j<v.kids.length→∃ x,kidT t v.i j=some x∧x∈t.kids) (IH:∀ k∈v.kids,∀ x∈t.kids,evL cfg n_ah 0 [.d x.d,.d k.d] []=some (.d (.int .i64 (rchkV x k)),[])):∀ (r:List Va) (j:Nat),v.kids.drop j=r→j≤v.kids.length→
  go X_ah [.c (.loop av2),.b 1,.c (.seq arc .ret)] ⟨[(2,.ref 0 2 0),(3,.ref 0 3 0),(5,.d (.int .i64 ((v.kids.length:Int)))),(6,.d (.int .i64 ((j:Int))))],boxT 2 t++boxW 3 false v⟩=some (.d (.int .i64 (od t v.i j r)),[])
 | [],j,hr,hj=>by
  have h1:=bd hr;have:j=v.kids.length:=y8;subst this;have d_a:decide ((v.kids.length:Int)<v.kids.length)=false:=by simp<;>omega
  rw[go_loop,rchkVs_nil];simp(disch:=first|exact y7|fail) only[go_sem,X_ah,d_a,boxT,boxW]
 | k::r,j,hr,hj=>by
  obtain⟨hlt,hc,hr'⟩:=cc hr;obtain⟨x,hx,hxm⟩:=hg j hlt;have hk:=IH k (List.mem_of_getElem? hc) x hxm;have hkid:=wg t v j y8 hx;have ih:=ref14_Check_loop t v hv0 hv hg IH r (j+1) hr' y8;simp only[boxT,boxW,List.cons_append,List.nil_append] at ih;have d_a:decide ((j:Int)<v.kids.length)=true:=by simp<;>omega
  have e1:(j:Int)+1=((j+1:Nat):Int):=y8;have e2:(((j % 2:Nat):Int)==0)=(j % 2==0):=by
   rcases abf j with h|h<;>rw[h]<;>rfl
  rw[go_loop,rchkVs_cons,hx];simp(disch:=first|exact y7|fail) only[go_sem,X_ah,d_a,hc,hkid,hk,boxT,boxW,e1,e2,ih,d7,ip,bne]
  repeat' ((try rw[goQ_b])<;>split<;>rename_i hh<;>(try simp only[zu,zq,zk,zn] at hh)<;>(try simp(disch:=first|exact y7|fail) only[*,go_sem,X_ah,d_a,hc,hkid,hk,boxT,boxW,e1,e2,ih,d7,ip,bne]))
theorem ref14_Check_ans:∀ (n:Nat) (v:Va) (t:Ty),v.size≤n→okV v→goodT n t→evL cfg n_ah 0 [.d t.d,.d v.d] []=some (.d (.int .i64 (rchkV t v)),[])
 |0,v,t,h,_,_=>by have:=v.size_pos;omega
 | n+1,v,t,h,hv,hg=>by
  obtain⟨h1,h2,h3,h4⟩:=(okV_eq v).1 hv;have IH:∀ k∈v.kids,∀ x∈t.kids,evL cfg n_ah 0 [.d x.d,.d k.d] []=some (.d (.int .i64 (rchkV x k)),[]):=fun k hk x hx=>ref14_Check_ans n k x (by have:=Va.size_kid hk;omega) (okVs_mem h4 hk) (hg.2 x hx)
  have hnum:evL cfg n_am 0 [.d t.d,.d (.int .i64 (v.i)),.d (.int .i64 (v.n))] []=some (.d (.bool (numsM t v.i v.n)),[]):=pn t v.i v.n h1;have hsg:=rz h2;rw[o_ah,rchkV_eq];cases hnl:v.null with
  | true=>
   have e:cr t v=if v.i !=0||v.n !=0||decide ((v.b.length:Int)>0)||decide ((v.kids.length:Int)>0) then 1 else 0:=by unfold cr;rw[hnl];rfl
   rw[e];simp(disch:=first|exact y7|fail) only[go_sem,X_ah,c_ah,hnl,bne]
   repeat' ((try rw[goQ_b])<;>split<;>rename_i hh<;>(try simp only[zu,zq,zk,zn] at hh)<;>(try simp(disch:=first|exact y7|fail) only[*,go_sem,hnl,bne]))
  | false=>
   by_cases hz:cr t v=0
   · have hl:=ref14_Check_loop t v hnl h3 (fun j hj=>kid_good hg.1 hz hnl hj) IH v.kids 0 rfl (aaj _)
     simp only[boxT,boxW,List.cons_append,List.nil_append,nc0] at hl;rw[hz,if_neg ze];unfold cr ry at hz;rw[hnl] at hz;simp(disch:=first|exact y7|fail) only[go_sem,X_ah,c_ah,hnl,hnum,hsg,cf,ew,hl,d7,bne]
     repeat' ((try rw[goQ_b])<;>split<;>rename_i hh<;>(try simp only[zu,zq,zk,zn] at hh)<;>(try simp(disch:=first|exact y7|fail) only[*,go_sem,hnl,hnum,hsg,cf,ew,hl,d7,bne]))
     all_goals (exfalso;revert hz;simp(disch:=first|omega|fail) only[*,go_sem,bne,Int.reduceEq,Int.reduceNeg,imp_false,zz,aao,forall_const,implies_true])
   · have hz':(cr t v !=0)=true:=by simpa using hz
     rw[hz',if_pos rfl];unfold cr ry at hz ⊢;rw[hnl] at hz ⊢;simp(disch:=first|exact y7|fail) only[go_sem,X_ah,c_ah,hnl,hnum,hsg,cf,ew,d7,bne]
     repeat' ((try rw[goQ_b])<;>split<;>rename_i hh<;>(try simp only[zu,zq,zk,zn] at hh)<;>(try simp(disch:=first|exact y7|fail) only[*,go_sem,hnl,hnum,hsg,cf,ew,d7,bne]))
     all_goals (exfalso;revert hz;simp(disch:=first|omega|fail) only[*,go_sem,bne,Int.reduceEq,Int.reduceNeg,imp_false,zz,aao,forall_const,implies_true])
