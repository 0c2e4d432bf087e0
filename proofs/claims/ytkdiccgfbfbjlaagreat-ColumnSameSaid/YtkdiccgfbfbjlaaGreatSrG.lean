import Derived.Test.YtkdiccgfbfbjlaaGreatTyG
import Derived.Test.YtkdiccgfbfbjlaaGreatVaF
import Derived.Test.YtkdiccgfbfbjlaaGreatSrC
set_option linter.unusedSectionVars false
namespace Go.Proofs.YtkdiccgfbfbjlaaGreat
open Go Go.Ev
def Qp:Nat→List Nod→Nat→Ty→Prop
 |0,nd,p,t=>(∃ x,nd[p]? =some x∧x.1=t)
 |m+1,nd,p,t=>∃ x,nd[p]? =some x∧x.1=t∧∀ (j:Nat) k,t.kids[j]? =some k→∃ q,x.2.1[j]? =some q∧Qp m nd q k
theorem a9o:∀ (l:List Ty) (i j:Nat) k,l[j]? =some k→(Ba i l)[j]? =some (i+Ty.Aq (l.take j))
 | [],i,j,k,h=>by simp at h
 |x::l,i,0,k,h=>by rw[Ba,List.take_zero,Ty.Aq];rfl
 | x::l,i,j+1,k,h=>by
  rw[Ba,List.getElem?_cons_succ,a9o l (i+x.size) j k (by simpa using h),List.take_succ_cons,Ty.Aq]
  congr 1;omega
theorem p7:∀ (l:List Ty) (i par:Nat) (d:Int) (j:Nat) k,l[j]? =some k→∃ post,bm i par d l=bm i par d (l.take j)++(Bq (i+Ty.Aq (l.take j)) par d k++post)
 | [],i,par,d,j,k,h=>by simp at h
 | x::l,i,par,d,0,k,h=>by
  have e:x=k:=by simpa using h
  subst e;exact⟨bm (i+x.size) par d l,by rw[bm,List.take_zero,bm,Ty.Aq];rfl⟩
 | x::l,i,par,d,j+1,k,h=>by
  obtain⟨post,e⟩:=p7 l (i+x.size) par d j k (by simpa using h)
  refine⟨post,?_⟩;rw[bm,e,List.take_succ_cons,bm,Ty.Aq,ac4,show i+x.size+Ty.Aq (l.take j)=i+(x.size+Ty.Aq (l.take j)) by omega]
theorem UL:∀ (m:Nat) (t:Ty) (pre post:List Nod) (par d:Int),Qp m (pre++Bq pre.length par d t++post) pre.length t
 |0,t,pre,post,par,d=>⟨(t,Ba (pre.length+1) t.kids,par,d),by rw[jk];simp,rfl⟩
 | m+1,t,pre,post,par,d=>by
  refine⟨(t,Ba (pre.length+1) t.kids,par,d),by rw[jk];simp,rfl,fun j k hk=> ?_⟩
  obtain⟨po,e⟩:=p7 t.kids (pre.length+1) pre.length (d+1) j k hk;refine⟨_,a9o _ _ _ _ hk,?_⟩;have hl:(pre++(t,Ba (pre.length+1) t.kids,par,d)::bm (pre.length+1) pre.length (d+1) (t.kids.take j)).length=pre.length+1+Ty.Aq (t.kids.take j):=by
   rw[aci,List.length_cons,gc.flatRs_len];omega
  have:=UL m k (pre++(t,Ba (pre.length+1) t.kids,par,d)::bm (pre.length+1) pre.length (d+1) (t.kids.take j)) (po++post) (pre.length:Nat) (d+1);rw[hl] at this;rw[jk,e];simpa[ac4] using this
theorem UK (m:Nat) (t:Ty):Qp m (Bq 0 (-1) 1 t) 0 t:=by simpa using UL m t [] [] (-1) 1
def Fits:Nat→Ty→Va→Prop
 |0,t,v=>True
 |m+1,t,v=>As t v=0∧inI v.i∧v.kids.length≤32768∧(v.null=true→v.kids=[])∧∀ (j:Nat) k,v.kids[j]? =some k→∃ (ix:Nat) (x:Ty),Dy t v.i j=t.kids[ix]? ∧t.kids[ix]? =some x∧(∀ kn:List Nat,Ga t.kind v.i kn j=kn[ix]?)∧Fits m x k
section
variable [Sh]
theorem sk {t:Ty} {v:Va} (h:As t v=0) (hn:v.null=true):v.kids=[]:=by
 unfold As at h;rw[if_pos hn] at h;split at h
 · cases h
 · rename_i c
   simp only[acu,not_or,ab4] at c;exact acw abu
theorem Xm {t:Ty} {v:Va} (h:As t v=0) (ht:t.kids.length≤1000):v.kids.length≤32768:=by
 cases hn:v.null with
 |true=>rw[sk h hn];simp
 | false=>
  unfold As at h;rw[hn,if_neg abw] at h;split at h
  · cases h
  · rename_i c
    simp only[acu,not_or,aca,not_and,ab4] at c;split at h
    · cases h
    · unfold FB at h
      by_cases hl:FE t.kind=true
      · have:=c.2;have:¬ ((v.kids.length:Int)>0):=fun h=>this h hl
        omega
      · repeat' split at h
        all_goals first|cases h|skip
        all_goals simp only[acg,bne_iff_ne,ne_eq,ab4,Classical.not_not] at*
        all_goals first|omega|skip
        exfalso;apply hl;unfold FE;simp[*]
theorem eX {t:Ty} {v:Va} {j:Nat} (h:B1 t=0) (hn:As t v=0) (hv:v.null=false) (hj:j<v.kids.length):∃ (ix:Nat) (x:Ty),Dy t v.i j=t.kids[ix]? ∧t.kids[ix]? =some x∧∀ kn:List Nat,Ga t.kind v.i kn j=kn[ix]? :=by
 obtain⟨x,hx,_⟩:=zg h hn hv hj;by_cases h10:t.kind=10
 · refine⟨0,x,?_,?_,fun kn=> ?_⟩
   · unfold Dy;rw[if_pos (by simpa using h10)]
   · unfold Dy at hx;rw[if_pos (by simpa using h10)] at hx;exact hx
   · unfold Ga;rw[h10];rfl
 by_cases h11:t.kind=11
 · refine⟨j % 2,x,?_,?_,fun kn=> ?_⟩
   · unfold Dy;rw[h11];rfl
   · unfold Dy at hx;rw[h11] at hx;exact hx
   · unfold Ga;rw[h11];rfl
 by_cases h13:t.kind=13
 · unfold Dy at hx
   rw[h13] at hx;have hx:(if decide (v.i<0) then none else t.kids[v.i.toNat]?)=some x:=hx
   split at hx
   · cases hx
   · rename_i c
     refine⟨v.i.toNat,x,?_,hx,fun kn=> ?_⟩
     · unfold Dy;rw[h13]
       show(if decide (v.i<0) then none else t.kids[v.i.toNat]?)=_
       rw[if_neg c]
     · unfold Ga;rw[h13]
       show(if decide (v.i<0) then none else kn[v.i.toNat]?)=_
       rw[if_neg c]
 have h12:t.kind=12:=by
   apply Classical.byContradiction;intro h12;unfold As at hn;rw[hv,if_neg abw] at hn;split at hn
   · cases hn
   · rename_i c
     simp only[acu,not_or,aca,not_and,ab4] at c;apply c.2 abu;unfold FE;simp[*]
 refine⟨j,x,?_,?_,fun kn=> ?_⟩
 · unfold Dy;rw[h12];rfl
 · unfold Dy at hx;rw[h12] at hx;exact hx
 · unfold Ga;rw[h12];rfl
theorem abr {t:Ty} {vi:Int}:∀ (l:List Va) (j0:Nat),De t vi j0 l=0→(∀ j,j<l.length→∃ x,Dy t vi (j0+j)=some x)→∀ (j:Nat) k,l[j]? =some k→∃ x,Dy t vi (j0+j)=some x∧Cn x k=0
 | [],j0,h,hg,j,k,hk=>by simp at hk
 | y::l,j0,h,hg,j,k,hk=>by
  rw[r8] at h;split at h
  · cases h
  · obtain⟨x,hx⟩:=hg 0 abw
    rw[Nat.add_zero] at hx;rw[hx] at h;simp only at h;split at h
    · rename_i c;rw[h] at c;simp at c
    · rename_i c
      cases j with
      | zero=>
       have e:y=k:=by simpa using hk
       subst e;exact⟨x,by rw[Nat.add_zero];exact hx,by simpa using c⟩
      | succ j=>
       have:=abr l (j0+1) h (fun j hj=>by
        have:=hg (j+1) (by simpa using hj)
        rwa [show j0+(j+1)=j0+1+j by omega] at this) j k (by simpa using hk)
       rwa [show j0+1+j=j0+(j+1) by omega] at this
theorem aqs:∀ (m:Nat) (t:Ty) (v:Va),Gp m t→t.size≤1000→okV v→Cn t v=0→Fits m t v
 |0,t,v,_,_,_,_=>trivial
 | m+1,t,v,hg,ht,hv,h=>by
  obtain⟨h1,_,_,h4⟩:=(GF v).1 hv;rw[asj] at h;split at h
  · rename_i c;rw[h] at c;simp at c
  · rename_i c
    have hz:As t v=0:=by simpa using c
    have htk:t.kids.length≤1000:=by have:=nj t.kids;have:=t.size_eq;omega
    refine⟨hz,h1,Xm hz htk,sk hz,fun j k hk=> ?_⟩
    have hnl:v.null=false:=by
     cases hn:v.null with
     |false=>rfl
     |true=>rw[sk hz hn] at hk;simp at hk
    rw[hnl,if_neg abw] at h;have hj:j<v.kids.length:=(ab1.1 hk).1;obtain⟨ix,x,e1,e2,e3⟩:=eX hg.1 hz hnl hj;obtain⟨y,hy,hr⟩:=abr v.kids 0 h (fun j hj=>by
     obtain⟨x,hx,_⟩:=zg hg.1 hz hnl hj;exact⟨x,by rw[Nat.zero_add];exact hx⟩) j k hk
    rw[Nat.zero_add,e1,e2] at hy;cases hy;have hm:=List.mem_of_getElem? e2;exact⟨ix,x,e1,e2,e3,aqs m x k (hg.2 x hm) (by have:=t.A8 hm;omega) (DJ h4 (List.mem_of_getElem? hk)) hr⟩
end
theorem bl8:∀ (m:Nat) (t:Ty) (v:Va),Fits m t v→KB m v
 |0,_,_,_=>trivial
 | m+1,t,v,h=>by
  obtain⟨_,_,h3,_,h4⟩:=h;refine⟨by omega,fun k hk=> ?_⟩
  obtain⟨j,hj⟩:=acx hk;obtain⟨ix,x,_,_,_,hf⟩:=h4 j k hj;exact bl8 m x k hf
structure EU (c:Col):Prop where
 here:c.here.length≤16384
 most:c.ints.length≤c.here.length∧c.ns.length≤c.here.length∧c.texts.length≤c.here.length∧c.lens.length≤c.here.length
 ints:∀ n∈c.ints,inI n
 ns:∀ n∈c.ns,0≤n∧n≤999999999
 texts:∀ b∈c.texts,b.length≤4096
 lens:∀ n∈c.lens,0≤n∧n≤32768
theorem EU.nil:EU Col.nil:=⟨by simp[Col.nil],by simp[Col.nil],by simp[Col.nil],by simp[Col.nil],by simp[Col.nil],by simp[Col.nil]⟩
theorem xq {t:Ty} {v:Va} (h:As t v=0) (hn:v.null=false):v.b.length≤4096∧(t.kind=9→0≤v.n∧v.n≤999999999):=by
 unfold As at h;rw[hn,if_neg abw] at h;split at h
 · cases h
 · rename_i c
   split at h
   · cases h
   · rename_i c2
     simp only[acu,not_or,aca,not_and,ab4] at c c2;refine⟨by have:=c2.1;omega,fun hk=> ?_⟩
     have hnum:Hk t v.i v.n=true:=by have:=c.1.1;simpa using this
     unfold Hk EX GO at hnum;simp only[hk] at hnum;simp only[aca] at hnum;have h2:=hnum.2;simp only[show((9:Int)==0)=false from rfl,show((9:Int)==1)=false from rfl,show((9:Int)==2)=false from rfl,show((9:Int)==3)=false from rfl,show((9:Int)==15)=false from rfl,show((9:Int)==4)=false from rfl,show((9:Int)==14)=false from rfl,show((9:Int)==9)=true from rfl,Bool.or_self,acb,if_false,if_true,aca,ab4] at h2
     omega
theorem EU.more {c:Col} {t:Ty} {v:Va} (h:EU c) (hl:c.here.length<16384) (hn:v.null=false) (hz:As t v=0) (hi:inI v.i) (hk:v.kids.length≤32768):EU (c.more t.kind v.i v.n v.b v.kids.length):=by
 obtain⟨f1,f2⟩:=xq hz hn;obtain⟨m1,m2,m3,m4⟩:=h.most;refine⟨by simp[Col.more];omega,⟨?_,?_,?_,?_⟩,fun n hm=> ?_,fun n hm=> ?_,fun b hm=> ?_,fun n hm=> ?_⟩
 · simp only[Col.more];split<;>simp<;>omega
 · simp only[Col.more];split<;>simp<;>omega
 · simp only[Col.more];split<;>simp<;>omega
 · simp only[Col.more];repeat' split
   all_goals simp
   all_goals omega
 · simp only[Col.more] at hm
   split at hm
   · exact h.ints n hm
   · rcases acz.1 hm with hm|hm
     · exact h.ints n hm
     · rw[acv] at hm;subst hm;exact hi
 · simp only[Col.more] at hm
   split at hm
   · rename_i e
     rcases acz.1 hm with hm|hm
     · exact h.ns n hm
     · rw[acv] at hm;subst hm;exact f2 (by simpa using e)
   · exact h.ns n hm
 · simp only[Col.more] at hm
   split at hm
   · rcases acz.1 hm with hm|hm
     · exact h.texts b hm
     · rw[acv] at hm;subst hm;exact f1
   · exact h.texts b hm
 · simp only[Col.more] at hm
   repeat' split at hm
   · rcases acz.1 hm with hm|hm
     · exact h.lens n hm
     · rw[acv] at hm;subst hm;omega
   · rcases acz.1 hm with hm|hm
     · exact h.lens n hm
     · rw[acv] at hm;subst hm;omega
   · exact h.lens n hm
theorem EU.gone {c:Col} (h:EU c) (hl:c.here.length<16384):EU c.gone:=by
 obtain⟨m1,m2,m3,m4⟩:=h.most;exact⟨by simp[Col.gone];omega,by simp[Col.gone];omega,h.ints,h.ns,h.texts,h.lens⟩
def Di (cs:List Col):Prop:=∀ c∈cs,EU c
theorem Di.set {cs:List Col} (h:Di cs) (p:Nat) {c:Col} (hc:EU c):Di (cs.set p c):=fun d hd=>by
 rcases adh hd with hd|rfl
 · exact h d hd
 · exact hc
theorem bk0:∀ (m:Nat) (v:Va),v.size≤m→∀ (nd:List Nod) (p:Nat) (t:Ty) (cs:List Col),Qp m nd p t→Fits m t v→Di cs→cs.length=nd.length→∃ r,GV nd p cs v=some r∧Di r.1∧r.1.length=nd.length:=by
 intro m
 induction m with
 |zero=>intro v h;have:=v.size_pos;omega
 | succ m IH=>
  intro v hsz nd p t cs ⟨x,hx,hxt,hkn⟩ ⟨f1,f2,f3,f4,f5⟩ hcs hl;have hp:p<cs.length:=by rw[hl];exact(ab1.1 hx).1
  obtain⟨c,hc⟩:∃ c,cs[p]? =some c:=⟨_,ab0 hp⟩
  have hco:=hcs c (List.mem_of_getElem? hc);have e0:GV nd p cs v=if decide (c.here.length≥16384) then some (cs,false) else if v.null then some (cs.set p c.gone,true) else Dk nd x.1.kind v.i x.2.1 0 (cs.set p (c.more x.1.kind v.i v.n v.b v.kids.length)) v.kids:=by
    cases v;rw[GV,hx,hc];rfl
  rw[e0];split
  · exact⟨_,rfl,hcs,hl⟩
  · rename_i hlt
    have hlt:c.here.length<16384:=by simpa using hlt
    cases hn:v.null with
    | true=>
     rw[if_pos rfl];exact⟨_,rfl,hcs.set p (hco.gone hlt),by rw[List.length_set];exact hl⟩
    | false=>
     rw[if_neg abw];subst hxt;have key:∀ (l:List Va) (j:Nat) (cs:List Col),v.kids.drop j=l→Di cs→cs.length=nd.length→∃ r,Dk nd x.1.kind v.i x.2.1 j cs l=some r∧Di r.1∧r.1.length=nd.length:=by
      intro l
      induction l with
      |nil=>intro j cs _ h1 h2;exact⟨_,by rw[Dk],h1,h2⟩
      | cons k l ih=>
       intro j cs hd h1 h2;obtain⟨_,hk,hd2⟩:=ba hd;obtain⟨ix,y,e1,e2,e3,hf⟩:=f5 j k hk;obtain⟨q,hq,hnq⟩:=hkn ix y e2;obtain⟨r1,g1,g2,g3⟩:=IH k (by have:=Va.A8 (List.mem_of_getElem? hk);omega) nd q y cs hnq hf h1 h2
       rw[Dk,e3,hq];simp only;rw[g1];obtain⟨c1,b⟩:=r1;cases b with
       |true=>exact ih (j+1) c1 hd2 g2 g3
       |false=>exact⟨_,rfl,g2,g3⟩
     exact key v.kids 0 _ rfl (hcs.set p (hco.more hlt hn f1 f2 f3)) (by rw[List.length_set];exact hl)
