import Derived.Test.YtmeohcmbohicoaaGreatDoorTyC
set_option linter.unusedSectionVars false
namespace Go.Proofs.YtmeohcmbohicoaaGreatDoor
open Go Go.Ev
set_option maxHeartbeats 4000000
def Zok (d:Nat) (Z:List (Cel×V)):Prop:=∀ p∈Z,p.1.d<d∧∃ x,p.2= .d x
section
variable {d:Nat} {Z:List (Cel×V)} (h:Zok d Z)
include h
theorem lkZ (k o:Nat) (r:List (Cel×V)):lk (Z++r) ⟨d,k,o⟩=lk r ⟨d,k,o⟩:=by
 induction Z with
 |nil=>rfl
 | cons p Z ih=>
  obtain⟨h1,_⟩:=h p vq;obtain⟨c,v⟩:=p;rw[List.cons_append,lk,if_neg (fun e=>by rw[e] at h1;exact absurd h1 (Nat.lt_irrefl _))]
  exact ih fun q hq=>h q (by simp[hq])
theorem stZ (k o:Nat) (v:V) (r:List (Cel×V)):st (Z++r) ⟨d,k,o⟩ v=Z++st r ⟨d,k,o⟩ v:=by
 induction Z with
 |nil=>rfl
 | cons p Z ih=>
  obtain⟨h1,_⟩:=h p vq;obtain⟨c,u⟩:=p;rw[List.cons_append,st,if_neg (fun e=>by rw[e] at h1;exact absurd h1 (Nat.lt_irrefl _)),ih fun q hq=>h q (by simp[hq])]
  rfl
theorem s6 (e:Nat) (r:List (Cel×V)):settleM e (Z++r)=Z++settleM e r:=by
 induction Z with
 |nil=>rfl
 | cons p Z ih=>
  obtain⟨_,x,h2⟩:=h p vq;obtain⟨c,u⟩:=p;simp only at h2;subst h2;rw[List.cons_append,settleM,ih fun q hq=>h q (by simp[hq])]
  rfl
theorem freeZ (k:Nat) (r:List (Cel×V)):freeM d k (Z++r)=Z++freeM d k r:=by
 induction Z with
 |nil=>rfl
 | cons p Z ih=>
  obtain⟨h1,x,h2⟩:=h p vq;obtain⟨c,u⟩:=p;simp only at h1 h2;subst h2;rw[List.cons_append,freeM,if_neg (fun e=>by omega),ih fun q hq=>h q (by simp[hq])]
  rfl
theorem aun (r:List (Cel×V)):leaveM d (Z++r)=Z++leaveM d r:=by
 induction Z with
 |nil=>rfl
 | cons p Z ih=>
  obtain⟨h1,x,h2⟩:=h p vq;obtain⟨c,u⟩:=p;simp only at h1 h2;subst h2;rw[List.cons_append,leaveM,if_pos h1,ih fun q hq=>h q (by simp[hq])]
  rfl
theorem cutZ (r:List (Cel×V)):cutMem d (Z++r)=Z++cutMem d r:=by
 induction Z with
 |nil=>rfl
 | cons p Z ih=>
  obtain⟨h1,x,h2⟩:=h p vq;obtain⟨c,u⟩:=p;simp only at h1;rw[List.cons_append,cutMem,if_pos vn,ih fun q hq=>h q (by simp[hq])]
  rfl
theorem allZ' (e:Nat) (r:List (Cel×V)):(Z++r).all (fun p=>p.2.upTo e)=r.all (fun p=>p.2.upTo e):=by
 induction Z with
 |nil=>rfl
 | cons p Z ih=>
  obtain⟨_,x,h2⟩:=h p vq;obtain⟨c,u⟩:=p;simp only at h2;subst h2;rw[List.cons_append,List.all_cons,ih fun q hq=>h q (by simp[hq])]
  rfl
end
def wM (x0 x1 x2 x3 x4 x5:D) (n:Int) (Z:List (Cel×V)):List (Cel×V):=
 [(⟨0,1,0⟩,.d x0),(⟨0,1,1⟩,.d x1),(⟨0,1,2⟩,.d x2),(⟨0,1,3⟩,.d x3),(⟨0,1,4⟩,.d x4),(⟨0,1,5⟩,.d x5),(⟨0,3,0⟩,.d (.int .i64 (n)))]++Z
def boxY (d k:Nat) (t:Ty):List (Cel×V):=[(⟨d,k,0⟩,.d (.int .i64 t.kind)),(⟨d,k,1⟩,.d (.sl (t.names.map D.str))),(⟨d,k,2⟩,.d (.sl (t.kids.map Ty.d))),(⟨d,k,3⟩,.d (.int .i64 t.len)),(⟨d,k,4⟩,.d (.int .i64 t.prec)),(⟨d,k,5⟩,.d (.int .i64 t.scale))]
def boxK (d k:Nat):Option Ty→List (Cel×V)
 |none=>[]
 |some t=>boxY d k t
theorem afy (d k:Nat):boxK d k none=[]:=rfl
theorem se (d k:Nat) (o:Option Ty):freeM d k (boxK d k o)=[]:=by
 cases o with
 |none=>rfl
 |some t=>simp only[boxK,boxY,jq,lf,and_self,if_true]
theorem dq (e d k:Nat) (o:Option Ty):settleM e (boxK d k o)=boxK d k o:=by cases o<;>rfl
theorem j6 (d k:Nat) (o:Option Ty):leaveM d (boxK d k o)=[]:=by
 cases o with
 |none=>rfl
 |some t=>simp only[boxK,boxY,leaveM,Nat.lt_irrefl,if_false]
theorem Zok_next {d:Nat} {Z:List (Cel×V)} (h:Zok d Z) (t k:Ty):Zok (d+1) (Z++(boxY d 3 t++boxY d 8 k)):=by
 intro p hp;rcases xb.1 hp with hp|hp
 · obtain⟨h1,h2⟩:=h p hp
   exact⟨by omega,h2⟩
 · simp only[boxY,List.cons_append,List.nil_append,wc,xx,or_false] at hp
   rcases hp with rfl|rfl|rfl|rfl|rfl|rfl|rfl|rfl|rfl|rfl|rfl|rfl<;>exact⟨Nat.lt_succ_self _,_,rfl⟩
def fewK:Nat→Ty→Prop
 |0,_=>True
 |m+1,t=>t.names.length≤1000000∧t.kids.length≤1000000∧∀ k∈t.kids,fewK m k
theorem um (x0 x1 x2 x3 x4 x5:D) (t:Ty) (D':Nat) (hD:1≤D') (Z:List (Cel×V)) (hZ:Zok D' Z) (deep:Nat) (hd:deep≤16) (hk:t.kids.length≤1000000)
  (IH:∀ k∈t.kids,∀ (n:Int) (Z:List (Cel×V)),Zok (D'+1) Z→0≤n→n≤100→evL cfg n_a7 (D'+1) [.d k.d,.d (.int .i64 (((deep+1:Nat):Int))),.ref 0 3 0] (wM x0 x1 x2 x3 x4 x5 n Z)=some (.d (.int .i64 ((chkT (deep+1) n k).2)),wM x0 x1 x2 x3 x4 x5 (chkT (deep+1) n k).1 Z)):
  ∀ (r:List Ty) (i:Nat) (n:Int) (o:Option Ty),t.kids.drop i=r→i≤t.kids.length→0≤n→n≤100→
  go (fx cfg D' [.t 6]) [.c (.loop akz),.b 1,.c (.seq aja .ret)] ⟨[(1,.d (.int .i64 ((deep:Int)))),(2,.ref 0 3 0),(48,.d (.sl (t.kids.map Ty.d))),(49,.d (.int .i64 ((t.kids.length:Int)))),(50,.d (.int .i64 ((i:Int))))],wM x0 x1 x2 x3 x4 x5 n (Z++(boxY D' 3 t++boxK D' 8 o))⟩=some (.d (.int .i64 ((chkTs (deep+1) n r).2)),wM x0 x1 x2 x3 x4 x5 (chkTs (deep+1) n r).1 Z)
 | [],i,n,o,hr,hi,h1,h2=>by
  have:=br hr;have:i=t.kids.length:=vn;subst this;have d_a:decide ((t.kids.length:Int)<t.kids.length)=false:=by simp<;>omega
  have z3:=s6 hZ;have z4:=aun hZ;have n0:(0=D')=False:=by simp;omega
  have n1:(D'=0)=False:=by simp;omega
  have n2:(0<D')=True:=by simp;omega
  have hS:=fun e=>dq e D' 8 o
  have hL:=j6 D' 8 o;rw[go_loop,chkTs_nil];generalize boxK D' 8 o=T at *;simp only[wM,boxY,List.cons_append,List.nil_append];have n3:(D'<D')=False:=by simp
  simp(disch:=first|exact vm|fail) only[go_sem,d_a,z3,z4,n0,n1,n2,n3,hS,hL,List.append_nil]
 | k::r,i,n,o,hr,hi,h1,h2=>by
  obtain⟨hlt,hc,hr'⟩:=cc hr;have hb:=chkT_le _ k (deep+1) n (wa _) h2;have hf:=IH k (List.mem_of_getElem? hc) n (Z++(boxY D' 3 t++boxY D' 8 k)) (Zok_next hZ t k) h1 h2;have d_a:decide ((i:Int)<t.kids.length)=true:=by simp<;>omega
  have e1:(i:Int)+1=((i+1:Nat):Int):=vn;have e2:(deep:Int)+1=((deep+1:Nat):Int):=vn;have z1:=lkZ hZ;have z2:=stZ hZ;have z3:=s6 hZ;have z4:=aun hZ;have z5:=freeZ hZ;have z6:=cutZ hZ;have z7:=allZ' hZ;have n0:(0=D')=False:=by simp;omega
  have n1:(D'=0)=False:=by simp;omega
  have n2:(0<D')=True:=by simp;omega
  have n3:(D'<D')=False:=by simp
  have n4:(D'≤D')=True:=by simp
  have n5:(0≤D')=True:=by simp
  have hS:=fun e=>dq e D' 8 o
  have hL:=j6 D' 8 o;have hF:=se D' 8 o;rw[go_loop,chkTs_cons];generalize hq:chkT (deep+1) n k=q at *;generalize boxK D' 8 o=T at *;rcases wx (q.2 !=0) with x|x
  · simp only[wM,boxY,List.cons_append,List.nil_append] at hf ⊢
    simp(disch:=first|exact vm|fail) only[go_sem,d_a,hc,e2,hf,x,z1,z2,z3,z4,z5,z6,z7,n0,n1,n2,n3,n4,n5,hS,hL,hF,List.append_nil,List.all_cons,List.all_nil]
  · have ih:=um x0 x1 x2 x3 x4 x5 t D' hD Z hZ deep hd hk IH r (i+1) q.1 (some k) hr' vn vn hb.2
    rw[if_neg (by rw[x];simp)]
    refine Eq.trans ?_ ih;simp only[wM,boxY,boxK,List.cons_append,List.nil_append] at hf ⊢;simp(disch:=first|exact vm|fail) only[go_sem,d_a,hc,e2,hf,x,z1,z2,z3,z4,z5,z6,z7,n0,n1,n2,n3,n4,n5,hS,hL,hF,List.append_nil,List.all_cons,List.all_nil,e1]
theorem ownM_01 (t:Ty) (h5:(t.kind==5)=false) (h6:(t.kind==6)=false) (h0:decide (t.kind<0)=false) (h17:decide (t.kind>17)=false):(ownM t==0)=true∧ownM t=0∨(ownM t==0)=false∧ownM t=1:=by
 unfold ownM restT;rw[h5,h6,h0,h17];simp only[Bool.or_self,vv,if_false]
 repeat' split
 all_goals simp
theorem ak7 (x0 x1 x2 x3 x4 x5:D):∀ (m:Nat) (t:Ty) (D' deep:Nat) (n:Int) (Z:List (Cel×V)),t.size≤m→fewK m t→1≤D'→Zok D' Z→deep≤17→0≤n→n≤100→
  evL cfg n_a7 D' [.d t.d,.d (.int .i64 ((deep:Int))),.ref 0 3 0] (wM x0 x1 x2 x3 x4 x5 n Z)=some (.d (.int .i64 ((chkT deep n t).2)),wM x0 x1 x2 x3 x4 x5 (chkT deep n t).1 Z)
 |0,t,_,_,_,_,h,_,_,_,_,_,_=>by have:=t.size_pos;omega
 | m+1,t,D',deep,n,Z,h,hs,hD,hZ,hd,h1,h2=>by
  obtain⟨s1,s2,s3⟩:=hs;rw[e_a7 D' _ _ rfl rfl,chkT_eq];have z1:=lkZ hZ;have z2:=stZ hZ;have z3:=s6 hZ;have z4:=aun hZ;have y1:=fun k o=>(congrArg (lk · (⟨D',k,o⟩:Cel)) (List.append_nil Z)).symm.trans (lkZ hZ k o [])
  have y2:=fun k o v=>(congrArg (st · (⟨D',k,o⟩:Cel) v) (List.append_nil Z)).symm.trans (stZ hZ k o v [])
  have y3:=fun e=>(congrArg (settleM e) (List.append_nil Z)).symm.trans ((s6 hZ e []).trans (List.append_nil Z))
  have y4:=(congrArg (leaveM D') (List.append_nil Z)).symm.trans ((aun hZ []).trans (List.append_nil Z));simp only[lk,st] at y1 y2;have n0:(0=D')=False:=by simp;omega
  have n1:(D'=0)=False:=by simp;omega
  have n2:(0<D')=True:=by simp;omega
  have n3:(D'<D')=False:=by simp
  rcases wx (decide ((deep:Int)>16)) with d_a|d_a<;>have p_a:=d_a<;>simp only[we,wd,xj,wq,ne_eq] at p_a
  · simp(disch:=first|exact vm|fail) only[go_sem,X_a7,c_a7,wM,y1,y2,y3,y4,z1,z2,z3,z4,n0,n1,n2,n3,d_a,List.cons_append,List.nil_append,List.append_nil,Bool.true_or]
  · rcases wx (decide (n≥100)) with d_b|d_b<;>have p_b:=d_b<;>simp only[we,wd,xj,wq,ne_eq] at p_b
    · simp(disch:=first|exact vm|fail) only[go_sem,X_a7,c_a7,wM,y1,y2,y3,y4,z1,z2,z3,z4,n0,n1,n2,n3,d_a,d_b,List.cons_append,List.nil_append,List.append_nil,Bool.or_true]
    · rw[d_a,d_b,Bool.or_self,if_neg vq]
      rcases wx (t.kind==5) with h5|h5
      · have ho:ownM t=5:=by unfold ownM;rw[h5,Bool.true_or,if_pos rfl]
        rw[ho,if_pos vr];simp(disch:=first|exact vm|fail) only[go_sem,X_a7,c_a7,wM,y1,y2,y3,y4,z1,z2,z3,z4,n0,n1,n2,n3,d_a,d_b,List.cons_append,List.nil_append,List.append_nil,Bool.or_false,Bool.or_true,Bool.true_or,h5]
      rcases wx (t.kind==6) with h6|h6
      · have ho:ownM t=5:=by unfold ownM;rw[h6,Bool.or_true,if_pos rfl]
        rw[ho,if_pos vr];simp(disch:=first|exact vm|fail) only[go_sem,X_a7,c_a7,wM,y1,y2,y3,y4,z1,z2,z3,z4,n0,n1,n2,n3,d_a,d_b,List.cons_append,List.nil_append,List.append_nil,Bool.or_false,Bool.or_true,Bool.true_or,h5,h6]
      rcases wx (decide (t.kind<0)) with h0|h0
      · have ho:ownM t=1:=by unfold ownM;rw[h5,h6,h0,Bool.true_or,Bool.or_self,if_neg vq,if_pos rfl]
        rw[ho,if_pos vr];simp(disch:=first|exact vm|fail) only[go_sem,X_a7,c_a7,wM,y1,y2,y3,y4,z1,z2,z3,z4,n0,n1,n2,n3,d_a,d_b,List.cons_append,List.nil_append,List.append_nil,Bool.or_false,Bool.or_true,Bool.true_or,h5,h6,h0]
      rcases wx (decide (t.kind>17)) with h17|h17
      · have ho:ownM t=1:=by unfold ownM;rw[h5,h6,h17,Bool.or_true,Bool.or_self,if_neg vq,if_pos rfl]
        rw[ho,if_pos vr];simp(disch:=first|exact vm|fail) only[go_sem,X_a7,c_a7,wM,y1,y2,y3,y4,z1,z2,z3,z4,n0,n1,n2,n3,d_a,d_b,List.cons_append,List.nil_append,List.append_nil,Bool.or_false,Bool.or_true,Bool.true_or,h5,h6,h0,h17]
      have hr:=od t s1 h5 h6 h0 h17;rcases ownM_01 t h5 h6 h0 h17 with⟨g1,g2⟩|⟨g1,g2⟩
      · rw[g1] at hr
        rw[g2,if_neg vr];have IH:=fun(k:Ty) (hk:k∈t.kids) (n:Int) (Z:List (Cel×V)) (hz:Zok (D'+1) Z) (q1:0≤n) (q2:n≤100)=>ak7 x0 x1 x2 x3 x4 x5 m k (D'+1) (deep+1) n Z (by have:=Ty.size_kid hk;omega) (s3 k hk) vn hz vn q1 q2
        have hl:=um x0 x1 x2 x3 x4 x5 t D' hD Z hZ deep vn s2 IH t.kids 0 (n+1) none rfl (ww _) vn vn;rw[afy] at hl;simp only[wM,boxY,List.cons_append,List.nil_append,List.append_nil] at hl ⊢;simp(disch:=first|exact vm|fail) only[go_sem,X_a7,c_a7,wM,y1,y2,y3,y4,z1,z2,z3,z4,n0,n1,n2,n3,d_a,d_b,List.cons_append,List.nil_append,List.append_nil,Bool.or_false,Bool.or_true,Bool.true_or,h5,h6,h0,h17,hr]
        exact hl
      · rw[g1] at hr
        rw[g2,if_pos vr];simp(disch:=first|exact vm|fail) only[go_sem,X_a7,c_a7,wM,y1,y2,y3,y4,z1,z2,z3,z4,n0,n1,n2,n3,d_a,d_b,List.cons_append,List.nil_append,List.append_nil,Bool.or_false,Bool.or_true,Bool.true_or,h5,h6,h0,h17,hr]
theorem ig (t:Ty) (hs:fewK t.size t):evL cfg n_b0 0 [.d t.d] []=some (.d (.int .i64 ((chkT 1 0 t).2)),[]):=by
 rw[o_b0];have h:=ak7 (.int .i64 t.kind) (.sl (t.names.map D.str)) (.sl (t.kids.map Ty.d)) (.int .i64 t.len) (.int .i64 t.prec) (.int .i64 t.scale) t.size t 1 1 0 [] (wa _) hs vn (fun p hp=>by simp at hp) vn vn vn
 simp only[wM,List.append_nil] at h;have h:evL cfg n_a7 (0+1) [.d t.d,.d (.int .i64 (1)),.ref 0 3 0] _=_:=h;simp(disch:=first|exact vm|fail) only[go_sem,X_b0,c_b0,h]
