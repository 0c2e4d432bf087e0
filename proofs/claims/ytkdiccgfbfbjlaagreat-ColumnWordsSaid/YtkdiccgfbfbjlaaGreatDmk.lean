import Derived.Test.YtkdiccgfbfbjlaaGreatCoT
import Derived.Test.YtkdiccgfbfbjlaaGreatL9
import Derived.KernelRfl
namespace Go.Proofs.YtkdiccgfbfbjlaaGreat
open Go Go.Ev
set_option maxHeartbeats 4000000
set_option maxRecDepth 100000
def idxT (l ws:List Tx):List Int:=l.map fun x=>(posT x ws:Int)
theorem a3h (l:List Bool) (hl:l.length≤100000):∀ (q:List Bool) (i:Nat),l.drop i=q→i≤l.length→
  ∃ j:Int,(q.all id=true→j= -1)∧(q.all id=false→0≤j)∧go X_aj [.c (.loop a5f),.b 0,.c (.seq a0r .ret)] ⟨[(0,.d (ku l)),(1,.d (.bool (false))),(7,.d (.int .i64 ((l.length:Int)))),(8,.d (.int .i64 ((i:Int))))],[]⟩=some (.d (.int .i64 (j)),[])
 | [],i,hq,hi=>by
  have:=cf hq;have:i=l.length:=yp;subst this;have d_a:decide ((l.length:Int)<l.length)=false:=by simp<;>omega
  refine⟨-1,fun _=>rfl,fun h=>by simp at h,?_⟩
  rw[go_loop];simp(disch:=first|exact yo|fail) only[go_sem,X_aj,ku,d_a]
 | v::q,i,hq,hi=>by
  obtain⟨h1,h2,h3⟩:=da hq;have d_a:decide ((i:Int)<l.length)=true:=by simp<;>omega
  cases v with
  | false=>
   refine⟨(i:Int),fun h=>by simp at h,fun _=>by omega,?_⟩
   rw[go_loop];simp(disch:=first|exact yo|fail) only[go_sem,X_aj,ku,d_a,h2]
  | true=>
   obtain⟨j,g1,g2,g3⟩:=a3h l hl q (i+1) h3 h1;refine⟨j,fun h=>g1 (by simpa using h),fun h=>g2 (by simpa using h),Eq.trans ?_ g3⟩
   rw[go_loop];simp(disch:=first|exact yo|fail) only[go_sem,X_aj,ku,d_a,h2,Int.natCast_add]
def colD (h:List Bool) (tx:List Tx):D:= .agg [ku h,.sl [],.sl [],.sl (tx.map txt),.sl []]
theorem a3j (h:List Bool) (hl:h.length≤100000) (tx:List Tx) (hn:h.all id=true):evL cfg n_c8 0 [.d (colD h tx)] []=some (.d (.bool (false)),[]):=by
 obtain⟨j,g1,g2,g3⟩:=a3h h hl h 0 rfl (aad _);have:=g1 hn;subst this;have hi:evL cfg n_aj 0 [.d (ku h),.d (.bool (false))] []=some (.d (.int .i64 (-1)),[]):=by
  rw[o_aj,← g3];simp(disch:=first|exact yo|fail) only[go_sem,X_aj,c_aj,ku,Int.natCast_zero,yz]
 have hc:evL cfg n_bp 0 [.d (ku h),.d (.bool (false))] []=some (.d (.bool (false)),[]):=by
  rw[o_bp];simp(disch:=first|exact yo|fail) only[go_sem,X_bp,c_bp,hi,Int.reduceGE,decide_false,ge_iff_le,Int.reduceLE,Int.reduceNeg]
 rw[o_c8];unfold colD;simp(disch:=first|exact yo|fail) only[go_sem,X_c8,c_c8,hc]
theorem to_ans (h:List Bool) (tx:List Tx):evL cfg n_cf 0 [.d (colD h tx)] []=some (.d (colD h tx),[]):=by
 rw[o_cf];unfold colD;simp(disch:=first|exact yo|fail) only[go_sem,X_cf,c_cf]
def optD (co ch ve sh ro st:Int):D:= .agg [.int .i64 co,.int .i64 ch,.int .i64 ve,.int .i64 sh,.int .i64 ro,.int .i64 st]
theorem a4o (co ch ve sh ro st:Int):∃ e:Int,evL cfg n_bk 0 [.d (optD co ch ve sh ro st)] []=some (.d (.int .i64 (e)),[])∧(e=0→(co=0∨co=4)∧64≤ch∧ch≤65536∧(ve=1∨ve=2)∧0≤sh∧sh≤100):=by
 rw[o_bk];unfold optD;by_cases h0:co=0
 · subst h0
   rcases y9 (decide (ch<64)) with d_a1|d_a1<;>have p_a1:=d_a1<;>simp only[zh,zb,zt,zi,ne_eq] at p_a1
   · refine⟨1,?_,fun h=>by omega⟩
     simp(disch:=first|exact yo|fail) only[go_sem,X_bk,c_bk,d_a1,Int.reduceBEq]
   · rcases y9 (decide (ch>65536)) with d_a2|d_a2<;>have p_a2:=d_a2<;>simp only[zh,zb,zt,zi,ne_eq] at p_a2
     · refine⟨1,?_,fun h=>by omega⟩
       simp(disch:=first|exact yo|fail) only[go_sem,X_bk,c_bk,d_a1,d_a2,Int.reduceBEq]
     · rcases y9 (decide (ve<1)) with d_a3|d_a3<;>have p_a3:=d_a3<;>simp only[zh,zb,zt,zi,ne_eq] at p_a3
       · refine⟨1,?_,fun h=>by omega⟩
         simp(disch:=first|exact yo|fail) only[go_sem,X_bk,c_bk,d_a1,d_a2,d_a3,Int.reduceBEq]
       · rcases y9 (decide (ve>2)) with d_a4|d_a4<;>have p_a4:=d_a4<;>simp only[zh,zb,zt,zi,ne_eq] at p_a4
         · refine⟨1,?_,fun h=>by omega⟩
           simp(disch:=first|exact yo|fail) only[go_sem,X_bk,c_bk,d_a1,d_a2,d_a3,d_a4,Int.reduceBEq]
         · rcases y9 (decide (sh<0)) with d_a5|d_a5<;>have p_a5:=d_a5<;>simp only[zh,zb,zt,zi,ne_eq] at p_a5
           · refine⟨1,?_,fun h=>by omega⟩
             simp(disch:=first|exact yo|fail) only[go_sem,X_bk,c_bk,d_a1,d_a2,d_a3,d_a4,d_a5,Int.reduceBEq]
           · rcases y9 (decide (sh>100)) with d_a6|d_a6<;>have p_a6:=d_a6<;>simp only[zh,zb,zt,zi,ne_eq] at p_a6
             · refine⟨1,?_,fun h=>by omega⟩
               simp(disch:=first|exact yo|fail) only[go_sem,X_bk,c_bk,d_a1,d_a2,d_a3,d_a4,d_a5,d_a6,Int.reduceBEq]
             · rcases y9 (decide (ro<1)) with d_a7|d_a7<;>have p_a7:=d_a7<;>simp only[zh,zb,zt,zi,ne_eq] at p_a7
               · refine⟨1,?_,fun h=>by omega⟩
                 simp(disch:=first|exact yo|fail) only[go_sem,X_bk,c_bk,d_a1,d_a2,d_a3,d_a4,d_a5,d_a6,d_a7,Int.reduceBEq]
               · rcases y9 (decide (ro>4096)) with d_a8|d_a8<;>have p_a8:=d_a8<;>simp only[zh,zb,zt,zi,ne_eq] at p_a8
                 · refine⟨1,?_,fun h=>by omega⟩
                   simp(disch:=first|exact yo|fail) only[go_sem,X_bk,c_bk,d_a1,d_a2,d_a3,d_a4,d_a5,d_a6,d_a7,d_a8,Int.reduceBEq]
                 · rcases y9 (decide (st<0)) with d_a9|d_a9<;>have p_a9:=d_a9<;>simp only[zh,zb,zt,zi,ne_eq] at p_a9
                   · refine⟨1,?_,fun h=>by omega⟩
                     simp(disch:=first|exact yo|fail) only[go_sem,X_bk,c_bk,d_a1,d_a2,d_a3,d_a4,d_a5,d_a6,d_a7,d_a8,d_a9,Int.reduceBEq]
                   · rcases y9 (decide (st>4096)) with d_b1|d_b1<;>have p_b1:=d_b1<;>simp only[zh,zb,zt,zi,ne_eq] at p_b1
                     · refine⟨1,?_,fun h=>by omega⟩
                       simp(disch:=first|exact yo|fail) only[go_sem,X_bk,c_bk,d_a1,d_a2,d_a3,d_a4,d_a5,d_a6,d_a7,d_a8,d_a9,d_b1,Int.reduceBEq]
                     · refine⟨0,?_,fun _=>⟨.inl rfl,by omega,by omega,by omega,by omega,by omega⟩⟩
                       simp(disch:=first|exact yo|fail) only[go_sem,X_bk,c_bk,d_a1,d_a2,d_a3,d_a4,d_a5,d_a6,d_a7,d_a8,d_a9,d_b1,Int.reduceBEq]
 · by_cases h4:co=4
   · subst h4
     rcases y9 (decide (ch<64)) with d_a1|d_a1<;>have p_a1:=d_a1<;>simp only[zh,zb,zt,zi,ne_eq] at p_a1
     · refine⟨1,?_,fun h=>by omega⟩
       simp(disch:=first|exact yo|fail) only[go_sem,X_bk,c_bk,d_a1,Int.reduceBEq]
     · rcases y9 (decide (ch>65536)) with d_a2|d_a2<;>have p_a2:=d_a2<;>simp only[zh,zb,zt,zi,ne_eq] at p_a2
       · refine⟨1,?_,fun h=>by omega⟩
         simp(disch:=first|exact yo|fail) only[go_sem,X_bk,c_bk,d_a1,d_a2,Int.reduceBEq]
       · rcases y9 (decide (ve<1)) with d_a3|d_a3<;>have p_a3:=d_a3<;>simp only[zh,zb,zt,zi,ne_eq] at p_a3
         · refine⟨1,?_,fun h=>by omega⟩
           simp(disch:=first|exact yo|fail) only[go_sem,X_bk,c_bk,d_a1,d_a2,d_a3,Int.reduceBEq]
         · rcases y9 (decide (ve>2)) with d_a4|d_a4<;>have p_a4:=d_a4<;>simp only[zh,zb,zt,zi,ne_eq] at p_a4
           · refine⟨1,?_,fun h=>by omega⟩
             simp(disch:=first|exact yo|fail) only[go_sem,X_bk,c_bk,d_a1,d_a2,d_a3,d_a4,Int.reduceBEq]
           · rcases y9 (decide (sh<0)) with d_a5|d_a5<;>have p_a5:=d_a5<;>simp only[zh,zb,zt,zi,ne_eq] at p_a5
             · refine⟨1,?_,fun h=>by omega⟩
               simp(disch:=first|exact yo|fail) only[go_sem,X_bk,c_bk,d_a1,d_a2,d_a3,d_a4,d_a5,Int.reduceBEq]
             · rcases y9 (decide (sh>100)) with d_a6|d_a6<;>have p_a6:=d_a6<;>simp only[zh,zb,zt,zi,ne_eq] at p_a6
               · refine⟨1,?_,fun h=>by omega⟩
                 simp(disch:=first|exact yo|fail) only[go_sem,X_bk,c_bk,d_a1,d_a2,d_a3,d_a4,d_a5,d_a6,Int.reduceBEq]
               · rcases y9 (decide (ro<1)) with d_a7|d_a7<;>have p_a7:=d_a7<;>simp only[zh,zb,zt,zi,ne_eq] at p_a7
                 · refine⟨1,?_,fun h=>by omega⟩
                   simp(disch:=first|exact yo|fail) only[go_sem,X_bk,c_bk,d_a1,d_a2,d_a3,d_a4,d_a5,d_a6,d_a7,Int.reduceBEq]
                 · rcases y9 (decide (ro>4096)) with d_a8|d_a8<;>have p_a8:=d_a8<;>simp only[zh,zb,zt,zi,ne_eq] at p_a8
                   · refine⟨1,?_,fun h=>by omega⟩
                     simp(disch:=first|exact yo|fail) only[go_sem,X_bk,c_bk,d_a1,d_a2,d_a3,d_a4,d_a5,d_a6,d_a7,d_a8,Int.reduceBEq]
                   · rcases y9 (decide (st<0)) with d_a9|d_a9<;>have p_a9:=d_a9<;>simp only[zh,zb,zt,zi,ne_eq] at p_a9
                     · refine⟨1,?_,fun h=>by omega⟩
                       simp(disch:=first|exact yo|fail) only[go_sem,X_bk,c_bk,d_a1,d_a2,d_a3,d_a4,d_a5,d_a6,d_a7,d_a8,d_a9,Int.reduceBEq]
                     · rcases y9 (decide (st>4096)) with d_b1|d_b1<;>have p_b1:=d_b1<;>simp only[zh,zb,zt,zi,ne_eq] at p_b1
                       · refine⟨1,?_,fun h=>by omega⟩
                         simp(disch:=first|exact yo|fail) only[go_sem,X_bk,c_bk,d_a1,d_a2,d_a3,d_a4,d_a5,d_a6,d_a7,d_a8,d_a9,d_b1,Int.reduceBEq]
                       · refine⟨0,?_,fun _=>⟨.inr rfl,by omega,by omega,by omega,by omega,by omega⟩⟩
                         simp(disch:=first|exact yo|fail) only[go_sem,X_bk,c_bk,d_a1,d_a2,d_a3,d_a4,d_a5,d_a6,d_a7,d_a8,d_a9,d_b1,Int.reduceBEq]
   · have e0:(co==0)=false:=by simp[h0]
     have e4:(co==4)=false:=by simp[h4]
     refine⟨7,?_,fun h=>by omega⟩
     simp(disch:=first|exact yo|fail) only[go_sem,X_bk,c_bk,e0,e4]
set_option maxHeartbeats 2000000
theorem ln (a b:Tx):evL cfg n_dh 0 [.d (txt a),.d (txt b)] []=some (.d (.int .i64 (cmpB a b)),[]):=by
 refine ap (n:=1) ?_;have hx:cfg.ext n_dh=some xCompare:=rfl;simp only[evFn,hx,allD,Option.map_some,Option.bind_some,xCompare,txt,ajj]
theorem di (a b:Tx):evL cfg n_b8 0 [.d (txt a),.d (txt b)] []=some (.d (.int .i64 (cmpB a b)),[]):=by
 rw[o_b8];simp(disch:=first|exact yo|fail) only[go_sem,X_b8,c_b8,ln]
theorem a4k (a b:Tx):decide (cmpB a b<0)=Op.bytesLess a b:=by
 unfold cmpB;cases Op.bytesLess a b
 · cases Op.bytesLess b a<;>rfl
 · rfl
theorem cmpB_eq (a b:Tx):(cmpB a b==0)=(a==b):=by
 unfold cmpB;by_cases e:a=b
 · subst e;simp[ud]
 · have:(a==b)=false:=by simpa using e
   rw[this];rcases y9 (Op.bytesLess a b) with h|h
   · rw[if_pos h];rfl
   · rw[if_neg (by simp[h])]
     rcases y9 (Op.bytesLess b a) with h'|h'
     · rw[if_pos h'];rfl
     · exact absurd (ae6 h h') e
theorem a2s {x:Tx} {ws:List Tx} (hR:Rise ws) {k:Nat} (h1:∀ i y,i<k→ws[i]? =some y→Op.bytesLess y x=true) (h2:∀ i y,k≤i→ws[i]? =some y→Op.bytesLess y x=false) (hk:k≤ws.length):posT x ws=k:=by
 apply Classical.byContradiction;intro hne;rcases Nat.lt_or_gt_of_ne hne with h|h
 · have hlt:posT x ws<ws.length:=yp
   have:=a2t (x:=x) (yy hlt);rw[h1 _ _ h (yy hlt)] at this;cases this
 · have hle:=my x ws
   have hlt:k<ws.length:=yp;have:=a2r (x:=x) h (yy hlt);rw[h2 _ _ (y7 _) (yy hlt)] at this;cases this
theorem bsf_loop {ws:List Tx} (hw:ws.length≤1000000) (hR:Rise ws) (x:Tx) {K:List Kf}:∀ (n i j:Nat),j-i=n→i≤j→j≤ws.length→(∀ m y,m<i→ws[m]? =some y→Op.bytesLess y x=true)→(∀ m y,j≤m→ws[m]? =some y→Op.bytesLess y x=false)→
  go X_ab (.c (.loop a5j):: .b 0::K) ⟨[(0,.d (.sl ((ws).map txt))),(1,.d (txt x)),(2,.d (.fn n_b8)),(8,.d (.int .i64 ((ws.length:Int)))),(9,.d (.int .i64 ((i:Int)))),(10,.d (.int .i64 ((j:Int))))],[]⟩=
    go X_ab K ⟨[(0,.d (.sl ((ws).map txt))),(1,.d (txt x)),(2,.d (.fn n_b8)),(8,.d (.int .i64 ((ws.length:Int)))),(9,.d (.int .i64 (((posT x ws:Nat):Int)))),(10,.d (.int .i64 (((posT x ws:Nat):Int)))),(17,.d (.bool (false)))],[]⟩:=by
 intro n
 induction n using Nat.strongRecOn with
 | _ n IH=>
  intro i j hn hij hj h1 h2;rw[go_loop];by_cases hlt:i<j
  · have d_a:decide ((i:Int)<j)=true:=by simp<;>omega
    have hm:(i+j) / 2<ws.length:=yp;have hc:=yy hm;have e1:IntKind.u64.wrap ((i:Int)+j)=((i+j:Nat):Int):=by rw[oe yp yp];omega
    have e2:=shr_one (i+j);have e3:IntKind.i64.wrap (((i+j) / 2:Nat):Int)=(((i+j) / 2:Nat):Int):=wrap_i64 yp yp;rcases y9 (Op.bytesLess ws[(i+j) / 2] x) with h|h
    · have ih:=IH (j-((i+j) / 2+1)) yp ((i+j) / 2+1) j rfl yp hj (fun m y hm2 hy=>by
       rcases Nat.lt_or_eq_of_le (Nat.lt_succ_iff.1 hm2) with h3|h3
       · exact kh (akm hR hy hc h3) h
       · subst h3;rw[hc] at hy;cases hy;exact h) h2
      rw[show(((i+j) / 2+1:Nat):Int)=(((i+j) / 2:Nat):Int)+1 by omega] at ih
      rw[← ih];simp(disch:=first|exact yo|fail) only[go_sem,X_ab,d_a,ba,e1,e2,e3,hc,di,a4k,h]
    · have ih:=IH ((i+j) / 2-i) yp i ((i+j) / 2) rfl yp yp h1 (fun m y hm2 hy=>by
       rcases Nat.lt_or_eq_of_le hm2 with h3|h3
       · rcases y9 (Op.bytesLess y x) with h4|h4
         · exact absurd (kh (akm hR hc hy h3) h4) (by simp[h])
         · exact h4
       · subst h3;rw[hc] at hy;cases hy;exact h)
      rw[← ih];simp(disch:=first|exact yo|fail) only[go_sem,X_ab,d_a,ba,e1,e2,e3,hc,di,a4k,h]
  · have d_a:decide ((i:Int)<j)=false:=by simp<;>omega
    have hp:=a2s hR h1 (fun m y hm2 hy=>h2 m y yp hy) yp
    have:j=i:=yp;subst this;rw[hp];simp(disch:=first|exact yo|fail) only[go_sem,X_ab,d_a]
theorem a42 {ws:List Tx} (hw:ws.length≤1000000) (hR:Rise ws) (x:Tx):evL cfg n_ab 0 [.d (.sl ((ws).map txt)),.d (txt x),.d (.fn n_b8)] []=some (.d (.tup [.int .i64 (posT x ws:Nat),.bool (ws[posT x ws]? ==some x)]),[]):=by
 rw[o_ab];have hl:=fun K=>bsf_loop hw hR x (K:=K) ws.length 0 ws.length rfl (aad _) (y7 _) (fun m y h=>by omega) (fun m y h hy=>by rw[aar h] at hy;cases hy)
 simp only[nc0] at hl;have hle:=my x ws;by_cases h:posT x ws<ws.length
 · have d_a:decide (((posT x ws:Nat):Int)<ws.length)=true:=by simp<;>omega
   have hc:=yy h;simp(disch:=first|exact yo|fail) only[go_sem,X_ab,c_ab,hl,d_a,hc,di,cmpB_eq]
   rfl
 · have d_a:decide (((posT x ws:Nat):Int)<ws.length)=false:=by simp<;>omega
   have hc:ws[posT x ws]? =none:=aar yp;simp(disch:=first|exact yo|fail) only[go_sem,X_ab,c_ab,hl,d_a,hc]
   rfl
theorem sj {l:List Tx} (hl:l.length≤1000000):evL cfg n_dn 0 [.d (.sl ((l).map txt))] []=some (if l.isEmpty then .d (.sl []) else .own false 1 ((riseT l).map txt),[]):=by
 refine ap (n:=1) ?_;have hx:cfg.ext n_dn=some mm:=rfl;cases l with
 |nil=>rfl
 | cons x l=>
  simp only[evFn,hx,allD,Option.map_some,Option.bind_some,xj (l:=x::l) yt hl];rfl
theorem jt {l ws:List Tx} (hw:ws.length≤1000000) (hb:∀ x∈ws,x.length≤1000000) {K:List Kf}:∀ (r:List Tx) (i:Nat) (acc:List Tx),ws.drop i=r→i≤ws.length→acc.length=i→
  go X_ay (.c (.loop a5b):: .b 0::K) ⟨[(0,.d (.sl ((l).map txt))),(2,.ref 0 2 0),(3,.ref 0 3 0),(4,.d (.sl ((ws).map txt))),(13,.d (.sl ((ws).map txt))),(14,.d (.int .i64 ((ws.length:Int)))),(15,.d (.int .i64 ((i:Int))))],[(⟨0,2,0⟩,.d .nilS),(⟨0,2,1⟩,.d .nilS),(⟨0,3,0⟩,ownL (acc.map txt)),(⟨0,3,1⟩,.d .nilS)]⟩=
   go X_ay K ⟨[(0,.d (.sl ((l).map txt))),(2,.ref 0 2 0),(3,.ref 0 3 0),(4,.d (.sl ((ws).map txt))),(13,.d (.sl ((ws).map txt))),(14,.d (.int .i64 ((ws.length:Int)))),(15,.d (.int .i64 ((ws.length:Int)))),(16,.d (.bool (false)))],[(⟨0,2,0⟩,.d .nilS),(⟨0,2,1⟩,.d .nilS),(⟨0,3,0⟩,ownL ((acc++r).map txt)),(⟨0,3,1⟩,.d .nilS)]⟩
 | [],i,acc,hr,hi,ha=>by
  have h1:=cf hr;have:i=ws.length:=yp;subst this;have d_a:decide ((ws.length:Int)<ws.length)=false:=by simp<;>omega
  rw[go_loop,List.append_nil];cases acc with
  |nil=>simp(disch:=first|exact yo|fail) only[go_sem,X_ay,d_a,ij]
  |cons a acc=>simp(disch:=first|exact yo|fail) only[go_sem,X_ay,d_a,gr]
 | x::r,i,acc,hr,hi,ha=>by
  obtain⟨hlt,hc,hr'⟩:=da hr;have d_a:decide ((i:Int)<ws.length)=true:=by simp<;>omega
  have hx:=hb x (List.mem_of_getElem? hc);have ih:=jt (l:=l) hw hb (K:=K) r (i+1) (acc++[x]) hr' yp (by simp;omega)
  rw[aam,List.singleton_append,List.map_append,List.map_cons,List.map_nil,adt,show(((i+1:Nat)):Int)=(i:Int)+1 by omega] at ih
  rw[go_loop,← ih];have hcl:x=[]∧evL cfg n_bc 0 [.d (txt x)] []=some (.d .nilS,[])∨x≠[]∧evL cfg n_bc 0 [.d (txt x)] []=some (.own false 1 (x.map byteD),[]):=by
   by_cases hz:x=[]
   · subst hz;exact .inl ⟨rfl,jv⟩
   · exact .inr ⟨hz,kf hz hx⟩
  cases acc with
  | nil=>
   rcases hcl with⟨rfl,hcl⟩|⟨hz,hcl⟩
   · simp(disch:=first|exact yo|fail) only[go_sem,X_ay,d_a,hc,hcl,ij];rfl
   · simp(disch:=first|exact yo|fail) only[go_sem,X_ay,d_a,hc,hcl,ij];rfl
  | cons a acc=>
   rw[List.length_cons] at ha;rcases hcl with⟨rfl,hcl⟩|⟨hz,hcl⟩
   · simp(disch:=first|exact yo|fail) only[go_sem,X_ay,d_a,hc,hcl,gr];rfl
   · simp(disch:=first|exact yo|fail) only[go_sem,X_ay,d_a,hc,hcl,gr];rfl
theorem ju {l ws:List Tx} (hl:l.length≤1000000) (hw:ws.length≤1000000) (hR:Rise ws) {c:V} (hc0:c.home 0=c) {K:List Kf}:∀ (r:List Tx) (i:Nat) (acc:List Int),l.drop i=r→i≤l.length→acc.length=i→
  go X_ay (.c (.loop ajm):: .b 2::K) ⟨[(2,.ref 0 2 0),(3,.ref 0 3 0),(4,.d (.sl ((ws).map txt))),(28,.d (.sl ((l).map txt))),(29,.d (.int .i64 ((l.length:Int)))),(30,.d (.int .i64 ((i:Int))))],[(⟨0,2,0⟩,.d .nilS),(⟨0,2,1⟩,.d .nilS),(⟨0,3,0⟩,c),(⟨0,3,1⟩,ownL (acc.map (D.int .i64)))]⟩=
   go X_ay K ⟨[(2,.ref 0 2 0),(3,.ref 0 3 0),(4,.d (.sl ((ws).map txt))),(28,.d (.sl ((l).map txt))),(29,.d (.int .i64 ((l.length:Int)))),(30,.d (.int .i64 ((l.length:Int)))),(31,.d (.bool (false)))],[(⟨0,2,0⟩,.d .nilS),(⟨0,2,1⟩,.d .nilS),(⟨0,3,0⟩,c),(⟨0,3,1⟩,ownL ((acc++idxT r ws).map (D.int .i64)))]⟩
 | [],i,acc,hr,hi,ha=>by
  have h1:=cf hr;have:i=l.length:=yp;subst this;have d_a:decide ((l.length:Int)<l.length)=false:=by simp<;>omega
  rw[go_loop,show acc++idxT [] ws=acc by simp[idxT]]
  cases acc with
  |nil=>simp(disch:=first|exact yo|fail) only[go_sem,X_ay,d_a,ij,hc0]
  |cons a acc=>simp(disch:=first|exact yo|fail) only[go_sem,X_ay,d_a,gr,hc0]
 | x::r,i,acc,hr,hi,ha=>by
  obtain⟨hlt,hc,hr'⟩:=da hr;have d_a:decide ((i:Int)<l.length)=true:=by simp<;>omega
  have ih:=ju hl hw hR hc0 (K:=K) r (i+1) (acc++[(posT x ws:Int)]) hr' yp (by simp;omega)
  have e1:acc++[(posT x ws:Int)]++idxT r ws=acc++idxT (x::r) ws:=by simp[idxT]
  rw[e1,List.map_append,List.map_cons,List.map_nil,adt,show(((i+1:Nat)):Int)=(i:Int)+1 by omega] at ih
  rw[go_loop,← ih];cases acc with
  |nil=>simp(disch:=first|exact yo|fail) only[go_sem,X_ay,d_a,hc,a42 hw hR,ij,hc0]
  | cons a acc=>
   rw[List.length_cons] at ha;simp(disch:=first|exact yo|fail) only[go_sem,X_ay,d_a,hc,a42 hw hR,gr,hc0]
theorem wx {l:List Tx} (hl:l.length≤1000000) (hb:∀ x∈l,x.length≤1000000):evL cfg n_ay 0 [.d (.sl ((l).map txt))] []=some (.d (.agg [.sl ((riseT l).map txt),.sl ((idxT l (riseT l)).map (D.int .i64))]),[]):=by
 have hwl:=bw l;have h1:=sj hl;have hw:∀ K,_:=fun K=>jt (l:=l) (ws:=riseT l) yp (fun x hx=>hb x (gu.1 hx)) (K:=K) (riseT l) 0 [] rfl (aad _) rfl
 simp only[nc0,List.map_nil,ij,List.nil_append] at hw;have hi:∀ c hc0 K,_:=fun c hc0 K=>ju hl (ws:=riseT l) yp (mt l) (c:=c) hc0 (K:=K) l 0 [] rfl (aad _) rfl
 simp only[nc0,List.map_nil,ij,List.nil_append] at hi;cases h:riseT l with
 | nil=>
  have:l=[]:=by
   cases l with
   |nil=>rfl
   |cons x l=>have:=(gu (l:=x::l) (z:=x)).2 List.mem_cons_self;rw[h] at this;cases this
  subst this;exact ap (n:=3) yr
 | cons w ws=>
  have hi:=hi (.own false 1 ((w::ws).map txt)) rfl;have hx:∃ x r,l=x::r:=by
   cases l with
   |nil=>cases h
   |cons x r=>exact⟨x,r,rfl⟩
  obtain⟨y,q,hq⟩:=hx;have e:idxT l (w::ws)=(posT y (w::ws):Int)::idxT q (w::ws):=by rw[hq];rfl
  rw[h,e] at hi;rw[h] at hw;rw[e];simp only[List.map_cons,gr,List.length_cons] at hw hi;rw[o_ay];have hie:l.isEmpty=false:=by rw[hq];rfl
  simp(disch:=first|exact yo|fail) only[go_sem,X_ay,c_ay,h1,hie,h,hw,hi]
