import Derived.Test.YtkdiccgfbfbjlaaGreatCoT
import Derived.KernelRfl
namespace Go.Proofs.YtkdiccgfbfbjlaaGreat
open Go Go.Ev
set_option maxHeartbeats 4000000
set_option maxRecDepth 100000
noncomputable def nanoB (n:Nat):Bool:=match evFn cfg 30 n_ct 0 [.d (.int .i64 ((n:Int)))] [] with
 |some (.d (.int .i64 (.ofNat k)),[])=>decide (k<9223372036854775808)
 |_=>false
theorem nano_all:(List.range 200).all nanoB=true:=ux
theorem nano_ans {n:Nat} (h:n<200):∃ k:Int,0≤k∧inI k∧evL cfg n_ct 0 [.d (.int .i64 ((n:Int)))] []=some (.d (.int .i64 (k)),[]):=by
 have:=wh.1 nano_all n (xb.2 h);unfold nanoB at this;split at this
 · rename_i k hk
   have:=of_decide_eq_true this;exact⟨((k:Nat):Int),by omega,by unfold inI;omega,a9 (n:=30) hk⟩
 · cases this
theorem base_ans (v:Int):evL cfg n_b7 0 [.d (.int .i64 (v))] []=some (.d (.int .i64 (IntKind.i64.wrap (v-1420070400))),[]):=by
 rw[o_b7];simp(disch:=first|exact uv|fail) only[go_sem,X_b7,c_b7]
abbrev eaE (f:FuncId) (l:List Int) (x:List Int) (i:Nat):List (Nat×V):=[(1,.d (.fn f)),(5,.own false 1 (x.map (D.int .i64))),(11,.d (i64s l)),(12,.d (.int .i64 ((l.length:Int)))),(13,.d (.int .i64 ((i:Int))))]
theorem aex (f:FuncId) (g:Int→Int) (l:List Int) (hg:∀ v∈l,evL cfg f 0 [.d (.int .i64 (v))] []=some (.d (.int .i64 (g v)),[])) (hl:l.length≤100000):∀ (q:List Int) (i:Nat) (x:List Int),l.drop i=q→i≤l.length→x.length=l.length→(∀ v∈x,v=0∨∃ u∈l,v=g u)→(f=n_b7∨f=n_ct)→
  ∃ x':List Int,x'.length=l.length∧(∀ v∈x',v=0∨∃ u∈l,v=g u)∧go X_ay [.c (.loop a0b),.b 0,.c (.seq aut .ret)] ⟨eaE f l x i,[]⟩=some (.own false 1 (x'.map (D.int .i64)),[])
    ∧go X_bg [.c (.loop a0a),.b 0,.c (.seq aul .ret)] ⟨eaE f l x i,[]⟩=some (.own false 1 (x'.map (D.int .i64)),[])
 | [],i,x,hq,hi,hx,hv,hf=>by
  have:=fe hq;have:i=l.length:=uw;subst this;have d_a:decide ((l.length:Int)<l.length)=false:=by simp<;>omega
  refine⟨x,hx,hv,?_,?_⟩
  · rw[go_loop]
    simp(disch:=first|exact uv|fail) only[go_sem,X_ay,eaE,i64s,d_a]
  · rw[go_loop]
    simp(disch:=first|exact uv|fail) only[go_sem,X_bg,eaE,i64s,d_a]
 | v::q,i,x,hq,hi,hx,hv,hf=>by
  obtain⟨h1,h2,h3⟩:=gk hq;have d_a:decide ((i:Int)<l.length)=true:=by simp<;>omega
  have hm:=List.mem_of_getElem? h2;have hc:=hg v hm;have hxi:i<x.length:=uw;obtain⟨y,hy⟩:∃ y,x[i]? =some y:=⟨_,u4 hxi⟩
  obtain⟨x',q1,q2,q3,q4⟩:=aex f g l hg hl q (i+1) (x.set i (g v)) h3 h1 (by rw[List.length_set];exact hx) (fun z hz=>by
    rcases ww hz with hz|rfl
    · exact hv z hz
    · exact .inr ⟨v,hm,rfl⟩) hf
  refine⟨x',q1,q2,Eq.trans ?_ q3,Eq.trans ?_ q4⟩
  · rw[go_loop]
    rcases hf with rfl|rfl<;>simp(disch:=first|exact uv|fail) only[go_sem,X_ay,eaE,i64s,d_a,h2,hc,hy,setI,pf,u3,Int.natCast_add]
  · rw[go_loop]
    rcases hf with rfl|rfl<;>simp(disch:=first|exact uv|fail) only[go_sem,X_bg,eaE,i64s,d_a,h2,hc,hy,setI,pf,u3,Int.natCast_add]
theorem qk {l:List Int} (hl:l.length≤100000):∃ x:List Int,x.length=l.length∧Fine true x∧evL cfg n_ay 0 [.d (i64s l),.d (.fn n_b7)] []=some (.own false 1 (x.map (D.int .i64)),[]):=by
 obtain⟨x,h1,h2,h3,_⟩:=aex n_b7 (fun v=>IntKind.i64.wrap (v-1420070400)) l (fun v _=>base_ans v) hl l 0 (List.replicate l.length 0) rfl (wq _) uy uy (.inl rfl)
 have e0:(List.replicate l.length 0).map (D.int .i64)=List.replicate l.length (.int .i64 0):=by rw[List.map_replicate]
 refine⟨x,h1,fun v hv=>⟨?_,fun h=>by cases h⟩,Eq.trans ?_ h3⟩
 · rcases h2 v hv with rfl|⟨u,_,rfl⟩
   · unfold inI;omega
   · exact apj _
 · rw[o_ay]
   simp(disch:=first|exact uv|fail) only[go_sem,X_ay,c_ay,eaE,e0,i64s,Int.natCast_zero,u3]
theorem aa5 {l:List Int} (hl:l.length≤100000) (hn:∀ v∈l,0≤v∧v<200):∃ x:List Int,x.length=l.length∧Fine false x∧evL cfg n_bg 0 [.d (i64s l),.d (.fn n_ct)] []=some (.own false 1 (x.map (D.int .i64)),[]):=by
 have hc:∀ n:Nat,∃ k:Int,n<200→0≤k∧inI k∧evL cfg n_ct 0 [.d (.int .i64 ((n:Int)))] []=some (.d (.int .i64 (k)),[]):=fun n=>by
   by_cases h:n<200
   · obtain⟨k,hk⟩:=nano_ans h
     exact⟨k,fun _=>hk⟩
   · exact⟨0,fun h'=>absurd h' h⟩
 obtain⟨G,hG⟩:=Classical.axiomOfChoice hc;obtain⟨x,h1,h2,_,h3⟩:=aex n_ct (fun v=>G v.toNat) l (fun v hv=>by
   obtain⟨a,b⟩:=hn v hv;have:=(hG v.toNat uw).2.2;rw[show((v.toNat:Nat):Int)=v by omega] at this
   exact this) hl l 0 (List.replicate l.length 0) rfl (wq _) uy uy (.inr rfl)
 have e0:(List.replicate l.length 0).map (D.int .i64)=List.replicate l.length (.int .i64 0):=by rw[List.map_replicate]
 refine⟨x,h1,fun v hv=> ?_,Eq.trans ?_ h3⟩
 · rcases h2 v hv with rfl|⟨u,hu,rfl⟩
   · exact⟨by unfold inI;omega,fun _=>by omega⟩
   · obtain⟨a,b⟩:=hn u hu
     have:=hG u.toNat uw;exact⟨this.2.1,fun _=>this.1⟩
 · rw[o_bg]
   simp(disch:=first|exact uv|fail) only[go_sem,X_bg,c_bg,eaE,e0,i64s,Int.natCast_zero,u3]
theorem ayn (l:List Bool) (hl:l.length≤100000):∀ (q:List Bool) (i:Nat),l.drop i=q→i≤l.length→
  ∃ j:Int,(q.all id=true→j= -1)∧(q.all id=false→0≤j)∧go X_ai [.c (.loop a0f),.b 0,.c (.seq awc .ret)] ⟨[(0,.d (ba l)),(1,.d (.bool (false))),(7,.d (.int .i64 ((l.length:Int)))),(8,.d (.int .i64 ((i:Int))))],[]⟩=some (.d (.int .i64 (j)),[])
 | [],i,hq,hi=>by
  have:=fe hq;have:i=l.length:=uw;subst this;have d_a:decide ((l.length:Int)<l.length)=false:=by simp<;>omega
  refine⟨-1,fun _=>rfl,fun h=>by simp at h,?_⟩
  rw[go_loop];simp(disch:=first|exact uv|fail) only[go_sem,X_ai,ba,d_a]
 | v::q,i,hq,hi=>by
  obtain⟨h1,h2,h3⟩:=gk hq;have d_a:decide ((i:Int)<l.length)=true:=by simp<;>omega
  cases v with
  | false=>
   refine⟨(i:Int),fun h=>by simp at h,fun _=>by omega,?_⟩
   rw[go_loop];simp(disch:=first|exact uv|fail) only[go_sem,X_ai,ba,d_a,h2]
  | true=>
   obtain⟨j,g1,g2,g3⟩:=ayn l hl q (i+1) h3 h1;refine⟨j,fun h=>g1 (by simpa using h),fun h=>g2 (by simpa using h),Eq.trans ?_ g3⟩
   rw[go_loop];simp(disch:=first|exact uv|fail) only[go_sem,X_ai,ba,d_a,h2,Int.natCast_add]
def colD (h:List Bool) (a b:List Int):D:= .agg [ba h,i64s a,i64s b,.sl [],.sl []]
theorem ayp (h:List Bool) (hl:h.length≤100000) (a b:List Int):evL cfg n_cz 0 [.d (colD h a b)] []=some (.d (.bool (!h.all id)),[]):=by
 obtain⟨j,g1,g2,g3⟩:=ayn h hl h 0 rfl (wq _);have hi:evL cfg n_ai 0 [.d (ba h),.d (.bool (false))] []=some (.d (.int .i64 (j)),[]):=by
  rw[o_ai,← g3];simp(disch:=first|exact uv|fail) only[go_sem,X_ai,c_ai,ba,Int.natCast_zero,u3]
 have hc:evL cfg n_bm 0 [.d (ba h),.d (.bool (false))] []=some (.d (.bool (!h.all id)),[]):=by
  rw[o_bm];cases c:h.all id with
  | true=>
   have:=g1 c;subst this;simp(disch:=first|exact uv|fail) only[go_sem,X_bm,c_bm,hi,Int.reduceGE,decide_false,ge_iff_le,Int.reduceLE,Int.reduceNeg]
  | false=>
   have:=g2 c;have d_e:decide (j≥0)=true:=by simp<;>omega
   simp(disch:=first|exact uv|fail) only[go_sem,X_bm,c_bm,hi,d_e]
 rw[o_cz];unfold colD i64s;simp(disch:=first|exact uv|fail) only[go_sem,X_cz,c_cz,hc]
theorem to_ans (h:List Bool) (a b:List Int):evL cfg n_cg 0 [.d (colD h a b)] []=some (.d (colD h a b),[]):=by
 rw[o_cg];unfold colD i64s;simp(disch:=first|exact uv|fail) only[go_sem,X_cg,c_cg]
def optD (co ch ve sh ro st:Int):D:= .agg [.int .i64 co,.int .i64 ch,.int .i64 ve,.int .i64 sh,.int .i64 ro,.int .i64 st]
theorem azn (co ch ve sh ro st:Int):∃ e:Int,evL cfg n_bd 0 [.d (optD co ch ve sh ro st)] []=some (.d (.int .i64 (e)),[])∧(e=0→(co=0∨co=4)∧64≤ch∧ch≤65536∧(ve=1∨ve=2)):=by
 rw[o_bd];unfold optD;by_cases h0:co=0
 · subst h0
   rcases vf (decide (ch<64)) with d_a1|d_a1<;>have p_a1:=d_a1<;>simp only[vn,vd,wb,vo,ne_eq] at p_a1
   · refine⟨1,?_,fun h=>by omega⟩
     simp(disch:=first|exact uv|fail) only[go_sem,X_bd,c_bd,d_a1,Int.reduceBEq]
   · rcases vf (decide (ch>65536)) with d_a2|d_a2<;>have p_a2:=d_a2<;>simp only[vn,vd,wb,vo,ne_eq] at p_a2
     · refine⟨1,?_,fun h=>by omega⟩
       simp(disch:=first|exact uv|fail) only[go_sem,X_bd,c_bd,d_a1,d_a2,Int.reduceBEq]
     · rcases vf (decide (ve<1)) with d_a3|d_a3<;>have p_a3:=d_a3<;>simp only[vn,vd,wb,vo,ne_eq] at p_a3
       · refine⟨1,?_,fun h=>by omega⟩
         simp(disch:=first|exact uv|fail) only[go_sem,X_bd,c_bd,d_a1,d_a2,d_a3,Int.reduceBEq]
       · rcases vf (decide (ve>2)) with d_a4|d_a4<;>have p_a4:=d_a4<;>simp only[vn,vd,wb,vo,ne_eq] at p_a4
         · refine⟨1,?_,fun h=>by omega⟩
           simp(disch:=first|exact uv|fail) only[go_sem,X_bd,c_bd,d_a1,d_a2,d_a3,d_a4,Int.reduceBEq]
         · rcases vf (decide (sh<0)) with d_a5|d_a5<;>have p_a5:=d_a5<;>simp only[vn,vd,wb,vo,ne_eq] at p_a5
           · refine⟨1,?_,fun h=>by omega⟩
             simp(disch:=first|exact uv|fail) only[go_sem,X_bd,c_bd,d_a1,d_a2,d_a3,d_a4,d_a5,Int.reduceBEq]
           · rcases vf (decide (sh>100)) with d_a6|d_a6<;>have p_a6:=d_a6<;>simp only[vn,vd,wb,vo,ne_eq] at p_a6
             · refine⟨1,?_,fun h=>by omega⟩
               simp(disch:=first|exact uv|fail) only[go_sem,X_bd,c_bd,d_a1,d_a2,d_a3,d_a4,d_a5,d_a6,Int.reduceBEq]
             · rcases vf (decide (ro<1)) with d_a7|d_a7<;>have p_a7:=d_a7<;>simp only[vn,vd,wb,vo,ne_eq] at p_a7
               · refine⟨1,?_,fun h=>by omega⟩
                 simp(disch:=first|exact uv|fail) only[go_sem,X_bd,c_bd,d_a1,d_a2,d_a3,d_a4,d_a5,d_a6,d_a7,Int.reduceBEq]
               · rcases vf (decide (ro>4096)) with d_a8|d_a8<;>have p_a8:=d_a8<;>simp only[vn,vd,wb,vo,ne_eq] at p_a8
                 · refine⟨1,?_,fun h=>by omega⟩
                   simp(disch:=first|exact uv|fail) only[go_sem,X_bd,c_bd,d_a1,d_a2,d_a3,d_a4,d_a5,d_a6,d_a7,d_a8,Int.reduceBEq]
                 · rcases vf (decide (st<0)) with d_a9|d_a9<;>have p_a9:=d_a9<;>simp only[vn,vd,wb,vo,ne_eq] at p_a9
                   · refine⟨1,?_,fun h=>by omega⟩
                     simp(disch:=first|exact uv|fail) only[go_sem,X_bd,c_bd,d_a1,d_a2,d_a3,d_a4,d_a5,d_a6,d_a7,d_a8,d_a9,Int.reduceBEq]
                   · rcases vf (decide (st>4096)) with d_b1|d_b1<;>have p_b1:=d_b1<;>simp only[vn,vd,wb,vo,ne_eq] at p_b1
                     · refine⟨1,?_,fun h=>by omega⟩
                       simp(disch:=first|exact uv|fail) only[go_sem,X_bd,c_bd,d_a1,d_a2,d_a3,d_a4,d_a5,d_a6,d_a7,d_a8,d_a9,d_b1,Int.reduceBEq]
                     · refine⟨0,?_,fun _=>⟨.inl rfl,by omega,by omega,by omega⟩⟩
                       simp(disch:=first|exact uv|fail) only[go_sem,X_bd,c_bd,d_a1,d_a2,d_a3,d_a4,d_a5,d_a6,d_a7,d_a8,d_a9,d_b1,Int.reduceBEq]
 · by_cases h4:co=4
   · subst h4
     rcases vf (decide (ch<64)) with d_a1|d_a1<;>have p_a1:=d_a1<;>simp only[vn,vd,wb,vo,ne_eq] at p_a1
     · refine⟨1,?_,fun h=>by omega⟩
       simp(disch:=first|exact uv|fail) only[go_sem,X_bd,c_bd,d_a1,Int.reduceBEq]
     · rcases vf (decide (ch>65536)) with d_a2|d_a2<;>have p_a2:=d_a2<;>simp only[vn,vd,wb,vo,ne_eq] at p_a2
       · refine⟨1,?_,fun h=>by omega⟩
         simp(disch:=first|exact uv|fail) only[go_sem,X_bd,c_bd,d_a1,d_a2,Int.reduceBEq]
       · rcases vf (decide (ve<1)) with d_a3|d_a3<;>have p_a3:=d_a3<;>simp only[vn,vd,wb,vo,ne_eq] at p_a3
         · refine⟨1,?_,fun h=>by omega⟩
           simp(disch:=first|exact uv|fail) only[go_sem,X_bd,c_bd,d_a1,d_a2,d_a3,Int.reduceBEq]
         · rcases vf (decide (ve>2)) with d_a4|d_a4<;>have p_a4:=d_a4<;>simp only[vn,vd,wb,vo,ne_eq] at p_a4
           · refine⟨1,?_,fun h=>by omega⟩
             simp(disch:=first|exact uv|fail) only[go_sem,X_bd,c_bd,d_a1,d_a2,d_a3,d_a4,Int.reduceBEq]
           · rcases vf (decide (sh<0)) with d_a5|d_a5<;>have p_a5:=d_a5<;>simp only[vn,vd,wb,vo,ne_eq] at p_a5
             · refine⟨1,?_,fun h=>by omega⟩
               simp(disch:=first|exact uv|fail) only[go_sem,X_bd,c_bd,d_a1,d_a2,d_a3,d_a4,d_a5,Int.reduceBEq]
             · rcases vf (decide (sh>100)) with d_a6|d_a6<;>have p_a6:=d_a6<;>simp only[vn,vd,wb,vo,ne_eq] at p_a6
               · refine⟨1,?_,fun h=>by omega⟩
                 simp(disch:=first|exact uv|fail) only[go_sem,X_bd,c_bd,d_a1,d_a2,d_a3,d_a4,d_a5,d_a6,Int.reduceBEq]
               · rcases vf (decide (ro<1)) with d_a7|d_a7<;>have p_a7:=d_a7<;>simp only[vn,vd,wb,vo,ne_eq] at p_a7
                 · refine⟨1,?_,fun h=>by omega⟩
                   simp(disch:=first|exact uv|fail) only[go_sem,X_bd,c_bd,d_a1,d_a2,d_a3,d_a4,d_a5,d_a6,d_a7,Int.reduceBEq]
                 · rcases vf (decide (ro>4096)) with d_a8|d_a8<;>have p_a8:=d_a8<;>simp only[vn,vd,wb,vo,ne_eq] at p_a8
                   · refine⟨1,?_,fun h=>by omega⟩
                     simp(disch:=first|exact uv|fail) only[go_sem,X_bd,c_bd,d_a1,d_a2,d_a3,d_a4,d_a5,d_a6,d_a7,d_a8,Int.reduceBEq]
                   · rcases vf (decide (st<0)) with d_a9|d_a9<;>have p_a9:=d_a9<;>simp only[vn,vd,wb,vo,ne_eq] at p_a9
                     · refine⟨1,?_,fun h=>by omega⟩
                       simp(disch:=first|exact uv|fail) only[go_sem,X_bd,c_bd,d_a1,d_a2,d_a3,d_a4,d_a5,d_a6,d_a7,d_a8,d_a9,Int.reduceBEq]
                     · rcases vf (decide (st>4096)) with d_b1|d_b1<;>have p_b1:=d_b1<;>simp only[vn,vd,wb,vo,ne_eq] at p_b1
                       · refine⟨1,?_,fun h=>by omega⟩
                         simp(disch:=first|exact uv|fail) only[go_sem,X_bd,c_bd,d_a1,d_a2,d_a3,d_a4,d_a5,d_a6,d_a7,d_a8,d_a9,d_b1,Int.reduceBEq]
                       · refine⟨0,?_,fun _=>⟨.inr rfl,by omega,by omega,by omega⟩⟩
                         simp(disch:=first|exact uv|fail) only[go_sem,X_bd,c_bd,d_a1,d_a2,d_a3,d_a4,d_a5,d_a6,d_a7,d_a8,d_a9,d_b1,Int.reduceBEq]
   · have e0:(co==0)=false:=by simp[h0]
     have e4:(co==4)=false:=by simp[h4]
     refine⟨7,?_,fun h=>by omega⟩
     simp(disch:=first|exact uv|fail) only[go_sem,X_bd,c_bd,e0,e4]
