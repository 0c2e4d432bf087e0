import Derived.Test.YtkdiccgfbfbjlaaGreatSrI
import Derived.Test.YtkdiccgfbfbjlaaGreatCoX
import Derived.Test.YtkdiccgfbfbjlaaGreatTyA
import Derived.Test.YtkdiccgfbfbjlaaGreatL10
import Derived.KernelRfl
set_option linter.unusedSectionVars false
namespace Go.Proofs.YtkdiccgfbfbjlaaGreat
open Go Go.Ev Go.RowKit
variable [Sh]
theorem aqd:DR Tryz.prog cfg Hl Dw:=by
 obtain⟨c,hc⟩:∃ c,Tryz.f10.body=some c:=acl.1 abv
 intro ds r hr F args w h1 h2 _ _;unfold Dw at hr;split at hr
 case isFalse=>cases hr
 rename_i hx;have h3:=hx.choose_spec.choose_spec;generalize hx.choose_spec.choose=vs at h3 hr;generalize hx.choose=t at h3 hr;obtain⟨rfl,hin⟩:=h3;obtain⟨y,hy,rfl⟩:=abz.1 hr;obtain⟨v,u,rfl,rv,ru⟩:=FN h1 h2;have up:∀ {x:Value} {d:D},Rd F w x d→Rd (fun b=>F b∧b<w.heap.size) w x d:=fun h=>h.mono fun b o u hb hu=>⟨⟨hb,World.block_lt_of_cell? w (ad3 b o) hu⟩,hu⟩
 obtain⟨c0,c1,c2,c3,c4,c5,rfl,B7⟩:=Ws (up rv);obtain⟨ra,rc,rfl,hrows⟩:=bK (up ru);have e0:=(B7.2 0 c0 _ rfl (by rw[Au];rfl)).Ar
 obtain⟨a1,q1,e1,_⟩:=(B7.2 1 c1 _ rfl (by rw[Au];rfl)).EE
 obtain⟨a2,q2,e2,_⟩:=(B7.2 2 c2 _ rfl (by rw[Au];rfl)).EE
 have e3:=(B7.2 3 c3 _ rfl (by rw[Au];rfl)).Ar
 have e4:=(B7.2 4 c4 _ rfl (by rw[Au];rfl)).Ar
 have e5:=(B7.2 5 c5 _ rfl (by rw[Au];rfl)).Ar
 subst e0 e1 e2 e3 e4 e5;refine .inr ⟨BW Tryz.func10 abv hc _ w,(als hin hy (fun b hb=>hb.2) B7 hrows).mono ?_⟩
 rintro e W ⟨v,rfl,hv,g⟩
 exact⟨g.size,fun b hb=>g.block b hb abw,⟨g.os,g.tape,g.output⟩,hv.mono fun b o u hb hu=>⟨hb.imp (fun h=>h.1) id,hu⟩⟩
theorem YA:FU Tryz.prog cfg:=HL fun _=>aqd
end Go.Proofs.YtkdiccgfbfbjlaaGreat
namespace Go.Proofs.YtkdiccgfbfbjlaaGreat
open Go Go.Ev
variable [Sh]
set_option maxHeartbeats 8000000
set_option maxRecDepth 100000
abbrev Bnd (co ch ve sh ro st:Int):Prop:=(co=0∨co=4)∧¬ ch<64∧¬ ch>65536∧¬ ve<1∧¬ ve>2∧¬ sh<0∧¬ sh>100∧¬ ro<1∧¬ ro>4096∧¬ st<0∧¬ st>4096
theorem ba7 (co ch ve sh ro st:Int):∃ e:Int,evL cfg Rf 0 [.d (E3 co ch ve sh ro st)] []=some (.d (.int .i64 (e)),[])∧(e=0→Bnd co ch ve sh ro st):=by
 rw[o_b7];unfold E3;by_cases h0:co=0∨co=4
 · rcases h0 with rfl|rfl
   all_goals (
    rcases ab2 (decide (ch<64)) with d_a1|d_a1<;>have p_a1:=d_a1<;>simp only[ab4,ab3,acg,ab6,ne_eq] at p_a1
    · exact⟨1,by simp(disch:=first|exact abt|fail) only[go_sem,Fh,E6,d_a1,Int.reduceBNe],fun h=>by omega⟩
    · rcases ab2 (decide (ch>65536)) with d_a2|d_a2<;>have p_a2:=d_a2<;>simp only[ab4,ab3,acg,ab6,ne_eq] at p_a2
      · exact⟨1,by simp(disch:=first|exact abt|fail) only[go_sem,Fh,E6,d_a1,d_a2,Int.reduceBNe],fun h=>by omega⟩
      · rcases ab2 (decide (ve<1)) with d_a3|d_a3<;>have p_a3:=d_a3<;>simp only[ab4,ab3,acg,ab6,ne_eq] at p_a3
        · exact⟨1,by simp(disch:=first|exact abt|fail) only[go_sem,Fh,E6,d_a1,d_a2,d_a3,Int.reduceBNe],fun h=>by omega⟩
        · rcases ab2 (decide (ve>2)) with d_a4|d_a4<;>have p_a4:=d_a4<;>simp only[ab4,ab3,acg,ab6,ne_eq] at p_a4
          · exact⟨1,by simp(disch:=first|exact abt|fail) only[go_sem,Fh,E6,d_a1,d_a2,d_a3,d_a4,Int.reduceBNe],fun h=>by omega⟩
          · rcases ab2 (decide (sh<0)) with d_a5|d_a5<;>have p_a5:=d_a5<;>simp only[ab4,ab3,acg,ab6,ne_eq] at p_a5
            · exact⟨1,by simp(disch:=first|exact abt|fail) only[go_sem,Fh,E6,d_a1,d_a2,d_a3,d_a4,d_a5,Int.reduceBNe],fun h=>by omega⟩
            · rcases ab2 (decide (sh>100)) with d_a6|d_a6<;>have p_a6:=d_a6<;>simp only[ab4,ab3,acg,ab6,ne_eq] at p_a6
              · exact⟨1,by simp(disch:=first|exact abt|fail) only[go_sem,Fh,E6,d_a1,d_a2,d_a3,d_a4,d_a5,d_a6,Int.reduceBNe],fun h=>by omega⟩
              · rcases ab2 (decide (ro<1)) with d_a7|d_a7<;>have p_a7:=d_a7<;>simp only[ab4,ab3,acg,ab6,ne_eq] at p_a7
                · exact⟨1,by simp(disch:=first|exact abt|fail) only[go_sem,Fh,E6,d_a1,d_a2,d_a3,d_a4,d_a5,d_a6,d_a7,Int.reduceBNe],fun h=>by omega⟩
                · rcases ab2 (decide (ro>4096)) with d_a8|d_a8<;>have p_a8:=d_a8<;>simp only[ab4,ab3,acg,ab6,ne_eq] at p_a8
                  · exact⟨1,by simp(disch:=first|exact abt|fail) only[go_sem,Fh,E6,d_a1,d_a2,d_a3,d_a4,d_a5,d_a6,d_a7,d_a8,Int.reduceBNe],fun h=>by omega⟩
                  · rcases ab2 (decide (st<0)) with d_a9|d_a9<;>have p_a9:=d_a9<;>simp only[ab4,ab3,acg,ab6,ne_eq] at p_a9
                    · exact⟨1,by simp(disch:=first|exact abt|fail) only[go_sem,Fh,E6,d_a1,d_a2,d_a3,d_a4,d_a5,d_a6,d_a7,d_a8,d_a9,Int.reduceBNe],fun h=>by omega⟩
                    · rcases ab2 (decide (st>4096)) with d_b1|d_b1<;>have p_b1:=d_b1<;>simp only[ab4,ab3,acg,ab6,ne_eq] at p_b1
                      · exact⟨1,by simp(disch:=first|exact abt|fail) only[go_sem,Fh,E6,d_a1,d_a2,d_a3,d_a4,d_a5,d_a6,d_a7,d_a8,d_a9,d_b1,Int.reduceBNe],fun h=>by omega⟩
                      · exact⟨0,by simp(disch:=first|exact abt|fail) only[go_sem,Fh,E6,d_a1,d_a2,d_a3,d_a4,d_a5,d_a6,d_a7,d_a8,d_a9,d_b1,Int.reduceBNe],fun _=>⟨by simp,by omega,by omega,by omega,by omega,by omega,by omega,by omega,by omega,by omega,by omega⟩⟩)
 · have f0:(co !=0)=true:=by simp;omega
   have f4:(co !=4)=true:=by simp;omega
   exact⟨7,by simp(disch:=first|exact abt|fail) only[go_sem,Fh,E6,f0,f4],fun h=>by omega⟩
theorem bba {co ch ve sh ro st:Int} (h:Bnd co ch ve sh ro st):evL cfg Hq 0 [.d (E3 co ch ve sh ro st)] []=some (.d (.int .i64 (0)),[]):=by
 obtain⟨h0,h1,h2,h3,h4,h5,h6,h7,h8,h9,hb⟩:=h;have d_a1:decide (ch<64)=false:=by simp<;>omega
 have d_a2:decide (ch>65536)=false:=by simp<;>omega
 have d_a3:decide (ve<1)=false:=by simp<;>omega
 have d_a4:decide (ve>2)=false:=by simp<;>omega
 have d_a5:decide (sh<0)=false:=by simp<;>omega
 have d_a6:decide (sh>100)=false:=by simp<;>omega
 have d_a7:decide (ro<1)=false:=by simp<;>omega
 have d_a8:decide (ro>4096)=false:=by simp<;>omega
 have d_a9:decide (st<0)=false:=by simp<;>omega
 have d_b1:decide (st>4096)=false:=by simp<;>omega
 rw[o_dh];unfold E3;rcases h0 with rfl|rfl<;>simp(disch:=first|exact abt|fail) only[go_sem,X_dh,Ym,d_a1,d_a2,d_a3,d_a4,d_a5,d_a6,d_a7,d_a8,d_a9,d_b1,Int.reduceBEq,Int.reduceBNe]
theorem eM (co ch ve sh ro st:Int):evL cfg Q5 0 [.d (E3 co ch ve sh ro st)] []=some (.d (E3 co ch ve sh ro st),[]):=by
 rw[o_ep];unfold E3;simp(disch:=first|exact abt|fail) only[go_sem,X_ep,YZ]
theorem wq (t:Ty) (vs:List Va) (hl:vs.length≤200):∀ (q:List Va) (i:Nat) (n:Int),vs.drop i=q→i≤vs.length→0≤n→n≤1000→
  go IL [.c (.loop arh),.b 0,.c (.seq amr .ret)] ⟨[(1,.d (.sl (vs.map Va.d))),(5,.d (.int .i64 (n))),(6,.d (.int .i64 ((i:Int))))],BH 2 t⟩=some (.d (.bool (H4 n q)),[])
 | [],i,n,hq,hi,h0,h1=>by
  have:=aq hq;have:i=vs.length:=abu;subst this;have d_a:decide ((vs.length:Int)<vs.length)=false:=by simp<;>omega
  rw[go_loop,H4];simp(disch:=first|exact abt|fail) only[go_sem,IL,d_a,BH,aby]
 | v::q,i,n,hq,hi,h0,h1=>by
  obtain⟨g1,g2,g3⟩:=ba hq;have d_a:decide ((i:Int)<vs.length)=true:=by simp<;>omega
  have hw:=qj v;have hb:=aqv _ v 1 (ab5 _);have w1:=bd (n:=n+EA 1 v) abu abu;rw[go_loop,H4];rcases ab2 (decide (n+EA 1 v>1000)) with d_b|d_b<;>have p_b:=d_b<;>simp only[ab4,ab3,acg,ab6,ne_eq] at p_b
  · simp(disch:=first|exact abt|fail) only[go_sem,IL,d_a,d_b,g2,hw,w1,BH,aby]
  · have ih:=wq t vs hl q (i+1) (n+EA 1 v) g3 g1 abu abu
    rw[if_neg (by rw[d_b];simp)]
    refine Eq.trans ?_ ih;simp(disch:=first|exact abt|fail) only[go_sem,IL,d_a,d_b,g2,hw,w1,BH,aby,Int.natCast_add]
theorem bme (t:Ty) (vs:List Va) (hl:vs.length<2 ^ 63):∃ b:Bool,evL cfg Rb 0 [.d t.d,.d (.sl (vs.map Va.d))] []=some (.d (.bool (b)),[])∧(b=true→FJ t=true∧vs.length≤200):=by
 have ht:=zf t;rw[o_bm];cases hf:FJ t with
 | false=>
  rw[hf] at ht;refine⟨false,?_,fun h=>by cases h⟩
  simp(disch:=first|exact abt|fail) only[go_sem,IL,SC,ht,aby]
 | true=>
  rw[hf] at ht;rcases ab2 (decide ((vs.length:Int)>200)) with d_a|d_a<;>have p_a:=d_a<;>simp only[ab4,ab3,acg,ab6,ne_eq] at p_a
  · refine⟨false,?_,fun h=>by cases h⟩
    simp(disch:=first|exact abt|fail) only[go_sem,IL,SC,ht,d_a,aby]
  · have hlo:=wq t vs abu vs 0 0 rfl (aco _) abu abu
    simp only[BH,show((0:Nat):Int)=0 from rfl] at hlo
    refine⟨H4 0 vs,?_,fun _=>⟨rfl,by omega⟩⟩
    simp(disch:=first|exact abt|fail) only[go_sem,IL,SC,ht,d_a,hlo,aby]
end Go.Proofs.YtkdiccgfbfbjlaaGreat
namespace Go.Proofs.YtkdiccgfbfbjlaaGreat
open Go Go.Ev
variable [Sh]
set_option maxHeartbeats 8000000
set_option maxRecDepth 100000
theorem vd (t:Ty) (hc:(BP 1 0 t).2=0):∀ (vs:List Va) (cs:List Col),(∀ v∈vs,okV v∧Cn t v=0)→Di cs→cs.length=(Bq 0 (-1) 1 t).length→∃ r,Cv (Bq 0 (-1) 1 t) cs vs=some r∧Di r.1∧r.1.length=(Bq 0 (-1) 1 t).length
 | [],cs,_,h1,h2=>⟨_,by rw[Cv],h1,h2⟩
 | v::l,cs,hv,h1,h2=>by
  obtain⟨a,b⟩:=hv v abw;have hsz:=tp hc;obtain⟨r,g1,g2,g3⟩:=bk0 v.size v (ab5 _) _ 0 t cs (UK _ t) (aqs _ t v (zy _ t 1 0 hc) abu a b) h1 h2;rw[Cv,g1];obtain⟨c1,d⟩:=r;cases d with
  |true=>exact vd t hc l c1 (fun x hx=>hv x (by simp[hx])) g2 g3
  |false=>exact⟨_,rfl,g2,g3⟩
theorem alr {t:Ty} {vs:List Va} (hin:Dc t vs):∃ y,Dx t vs=some y∧((∃ e:Int,e≠0∧y= .tup [.sl [],.int .i64 e])∨(BP 1 0 t).2=0∧∃ cs:List Col,Di cs∧cs.length=t.size∧y= .tup [.sl (cs.map Col.d),.int .i64 0]):=by
 unfold Dx;by_cases hc:(BP 1 0 t).2=0
 · rw[hc,if_neg abx]
   by_cases hb:Bg t vs=0
   · rw[hb,if_neg abx]
     have hok:=ble vs hin.2.2;obtain⟨r,g1,g2,g3⟩:=vd t hc vs (List.replicate t.size Col.nil) (fun v hv=>⟨DJ hok hv,aq9 t vs hb v hv⟩) (fun c h=>by rw[(adr.1 h).2];exact .nil) (by rw[List.length_replicate,gc])
     unfold P7;rw[g1,Option.map_some];obtain⟨cs,b⟩:=r;cases b with
     |true=>exact⟨_,rfl,.inr ⟨rfl,cs,g2,by rw[g3,gc],rfl⟩⟩
     |false=>exact⟨_,rfl,.inl ⟨4,by decide,rfl⟩⟩
   · rw[if_pos (by simpa using hb)]
     exact⟨_,rfl,.inl ⟨_,hb,rfl⟩⟩
 · rw[if_pos (by simpa using hc)]
   exact⟨_,rfl,.inl ⟨_,hc,rfl⟩⟩
theorem abe (hS:Sh.on=true) {t:Ty} {vs:List Va} (hin:Dc t vs) {y:D} (hy:Dx t vs=some y):evL cfg Hl 0 [.d t.d,.d (.sl (vs.map Va.d))] []=some (.d y,[]):=by
 refine ak (n:=1) ?_;have hx:cfg.ext Hl=some Dw:=by
  show(if Sh.on then some Dw else none)=some Dw
  rw[hS];rfl
 simp only[BU,hx,B6,Option.map_some,Option.bind_some,bce hin,hy]
theorem S7 {t:Ty} (h:B1 t=0):inI t.scale:=by
 unfold B1 at h
 repeat' split at h
 all_goals first|cases h|skip
 all_goals
  unfold Hg at h
  repeat' split at h
  all_goals first|cases h|skip
  all_goals
   simp only[acu,not_or,ab4,bne_iff_ne,ne_eq,Classical.not_not,aca] at *;unfold inI;omega
end Go.Proofs.YtkdiccgfbfbjlaaGreat
namespace Go.Proofs.YtkdiccgfbfbjlaaGreat
open Go Go.Ev
variable [Sh]
set_option maxHeartbeats 8000000
set_option maxRecDepth 100000
abbrev saM (t:Ty) (o:Op):List (Cel×V):=[(⟨0,3,0⟩,.d (.int .i64 (t.kind))),(⟨0,3,1⟩,.d (.sl (t.names.map D.str))),(⟨0,3,2⟩,.d (.sl (t.kids.map Ty.d))),(⟨0,3,3⟩,.d (.int .i64 (t.len))),(⟨0,3,4⟩,.d (.int .i64 (t.prec))),(⟨0,3,5⟩,.d (.int .i64 (t.scale))),(⟨0,5,0⟩,.d (.int .i64 (o.co))),(⟨0,5,1⟩,.d (.int .i64 (o.ch))),(⟨0,5,2⟩,.d (.int .i64 (o.ve))),(⟨0,5,3⟩,.d (.int .i64 (o.sh))),(⟨0,5,4⟩,.d (.int .i64 (o.ro))),(⟨0,5,5⟩,.d (.int .i64 (o.st)))]
abbrev saE (a b:Int):List (Cel×V):=[(⟨0,11,0⟩,.d (.int .i64 (a))),(⟨0,11,1⟩,.d (.int .i64 (b))),(⟨0,14,0⟩,.d (.int .i64 (a))),(⟨0,14,1⟩,.d (.int .i64 (b)))]
theorem blw (t:Ty) (o:Op) (a b i col:Int) (hi:0≤i∧i≤100000) (m7 m9:V) (h7:m7.home 0=m7) (h9:m9.home 0=m9) (L:List (Int×List UInt8)) (hL:L.length≤10) (K:List Kf):∀ (q:List (Int×List UInt8)) (k:Nat),L.drop k=q→k≤L.length→
  go FP (.c (.loop aam):: .b 2:: .b 1:: .c yr::K) ⟨[(5,.ref 0 5 0),(7,m7),(9,m9),(10,.d (.int .i64 (i))),(12,.d (.sl (L.map (smD col)))),(15,.d (.sl (L.map (smD col)))),(17,.d (.int .i64 ((k:Int))))],saM t o++saE a b⟩
   =go FP K ⟨[(5,.ref 0 5 0),(7,m7),(9,m9),(10,.d (.int .i64 (i+1)))],saM t o++saE a b⟩
 | [],k,hq,hk=>by
  have:=aq hq;have:k=L.length:=abu;subst this;have d_a:decide ((L.length:Int)<L.length)=false:=by simp<;>omega
  have w1:=bd (n:=i+1) abu abu;rw[go_loop];simp only[saM,saE,List.cons_append,List.nil_append];simp(disch:=first|exact abt|fail) only[go_sem,FP,d_a,w1,h7,h9,aby]
 | y::q,k,hq,hk=>by
  obtain⟨g1,g2,g3⟩:=ba hq;have d_a:decide ((k:Int)<L.length)=true:=by simp<;>omega
  refine Eq.trans ?_ (blw t o a b i col hi m7 m9 h7 h9 L hL K q (k+1) g3 g1);rw[go_loop];simp only[saM,saE,List.cons_append,List.nil_append];simp(disch:=first|exact abt|fail) only[go_sem,FP,d_a,g2,h7,h9,smD,bne_self_eq_false,aby,Int.natCast_add]
theorem tk5 (a b c d e:D):List.take 5 [a,b,c,d,e]=[a,b,c,d,e]:=rfl
theorem a9i (t:Ty) (o:Op) (cs:List Col) (fl:List D) (hN:cs.length≤1000) (hfl:fl.length=cs.length)
  (hw:∀ (i:Nat) c d,cs[i]? =some c→fl[i]? =some d→∃ (t':Ty) (ks:List Nat) (par deep:Int),d=CO t' ks par deep∧WR t' ks par deep (i:Int) c o):
  ∀ (k i:Nat) (E:List (Cel×V)),cs.length-i=k→i≤cs.length→(E=[]∨∃ a b,E=saE a b)→
  go FP [.c (.loop aal),.b 0,.c (.seq yp .ret)] ⟨[(5,.ref 0 5 0),(7,.d (.sl (cs.map Col.d))),(9,.d (.sl fl)),(10,.d (.int .i64 ((i:Int))))],saM t o++E⟩=some (.d (.bool (true)),[])
 | 0,i,E,hk,hi,hE=>by
  have e:i=cs.length:=abu;subst e;have d_a:decide ((cs.length:Int)<cs.length)=false:=by simp<;>omega
  rw[go_loop];rcases hE with rfl|⟨a,b,rfl⟩
  · simp only[saM,List.append_nil]
    simp(disch:=first|exact abt|fail) only[go_sem,FP,d_a,hfl]
  · simp only[saM,saE,List.cons_append,List.nil_append]
    simp(disch:=first|exact abt|fail) only[go_sem,FP,d_a,hfl]
 | k+1,i,E,hk,hi,hE=>by
  have hlt:i<cs.length:=abu;have d_a:decide ((i:Int)<cs.length)=true:=by simp<;>omega
  obtain⟨c,hc⟩:∃ c,cs[i]? =some c:=⟨_,ab0 hlt⟩
  obtain⟨d,hd⟩:∃ d,fl[i]? =some d:=⟨_,ab0 abu⟩
  obtain⟨t',ks,par,deep,rfl,e1,e2,er,L,hL,hwr⟩:=hw i c d hc hd;have hto:=bV c;rw[go_loop];simp only[Op.d,E3,Col.d,CO] at hwr hto hd;have ih:=a9i t o cs fl hN hfl hw k (i+1) (saE e1 e2) abu abu (.inr ⟨_,_,rfl⟩);have q:=blw t o e1 e2 i i abu (.d (.sl (cs.map Col.d))) (.d (.sl fl)) rfl rfl L hL [.c (.loop aal),.b 0,.c (.seq yp .ret)] L 0 rfl (aco _);rw[Int.natCast_add,show((1:Nat):Int)=1 from rfl] at ih
  rw[ih,show((0:Nat):Int)=0 from rfl] at q
  simp only[saM,saE,List.cons_append,List.nil_append] at q;rcases hE with rfl|⟨a,b,rfl⟩
  · simp only[saM,List.append_nil]
    simp(disch:=first|exact abt|fail) only[go_sem,FP,d_a,hfl,hc,hd,hto,hwr,q,tk8,tk5,Col.d,beq_self_eq_true,aby]
    done
  · simp only[saM,saE,List.cons_append,List.nil_append]
    simp(disch:=first|exact abt|fail) only[go_sem,FP,d_a,hfl,hc,hd,hto,hwr,q,tk8,tk5,Col.d,beq_self_eq_true,aby]
    done
theorem lawX (hS:Sh.on=true) (hk:evL cfg Xd 0 [] []=some (.d (.bool (true)),[])) (t:Ty) (vs:List Va) (o:Op) (hl:vs.length<2 ^ 63) (hok:C6 vs=true):evL cfg Rs 0 [.d t.d,.d (.sl (vs.map Va.d)),.d o.d] []=some (.d (.bool (true)),[]):=by
 obtain⟨b,hfw,hb⟩:=bme t vs hl;obtain⟨e,hrc,he⟩:=ba7 o.co o.ch o.ve o.sh o.ro o.st;have hof:=eM o.co o.ch o.ve o.sh o.ro o.st;unfold E3 at hrc hof;rw[o_ac];simp only[Op.d,E3];cases b with
 |false=>simp(disch:=first|exact abt|fail) only[go_sem,FP,QF,hk,hfw]
 | true=>
  by_cases hz:e=0
  · subst hz
    obtain⟨hft,h200⟩:=hb rfl;have hin:Dc t vs:=⟨hft,h200,hok⟩;obtain⟨y,hy,hyy⟩:=alr hin;have hsh:=abe hS hin hy;rcases hyy with⟨e,h1,rfl⟩|⟨hc,cs,h1,h2,rfl⟩
    · have h1':(e !=0)=true:=by simpa using h1
      simp(disch:=first|exact abt|fail) only[go_sem,FP,QF,hk,hfw,hrc,hof,hsh,h1',Int.reduceBNe]
    · have hfl:=qg t (bmc hft).1 hc
      have hn:(Cp 0 (-1) 1 t).length=t.size:=Fe _ _ _ _;have hbd:=he rfl;have Bp:evL cfg Hq 0 [.d o.d] []=some (.d (.int .i64 (0)),[]):=bba hbd;have ho:Gh o:=⟨hbd.1,by omega,by omega,by omega⟩
      have hsz:=tp hc;have q:=a9i t o cs (Cp 0 (-1) 1 t) abu abu (fun i c d hci hdi=>by
       rw[akv,acf,abz] at hdi;obtain⟨x,hx,rfl⟩:=hdi;have hn:=ak6 t.size t 1 0 0 (-1) 1 (ab5 _) hc x (List.mem_of_getElem? hx);exact⟨x.1,x.2.1,x.2.2.1,x.2.2.2,rfl,bcf ho Bp _ _ _ _ _ _ (h1 c (List.mem_of_getElem? hci)) (S7 hn.1)⟩) cs.length 0 [] rfl (aco _) (.inl rfl)
      rw[show((0:Nat):Int)=0 from rfl] at q
      simp only[saM,List.append_nil] at q;generalize Cp 0 (-1) 1 t=fl at hfl hn q;simp(disch:=first|exact abt|fail) only[go_sem,FP,QF,hk,hfw,hrc,hof,hsh,hfl,hn,h2,q,aby,Int.reduceBNe]
      done
  · have hz':(e !=0)=true:=by simpa using hz
    simp(disch:=first|exact abt|fail) only[go_sem,FP,QF,hk,hfw,hrc,hof,hz']
end Go.Proofs.YtkdiccgfbfbjlaaGreat
namespace Go.Proofs.YtkdiccgfbfbjlaaGreat
open Go Go.Ev
variable [Sh]
set_option maxHeartbeats 4000000
set_option maxRecDepth 100000
def tK:Ty:= .mk 12 [[97]] [.mk 7 [] [] 0 0 0] 0 0 0
def vK:Va:= .mk false 0 0 [] [.mk false 0 0 [103,111,108,100] []]
def cK:List Col:=[⟨[true,true,true],[],[],[],[]⟩,⟨[true,true,true],[],[],[[103,111,108,100],[103,111,108,100],[103,111,108,100]],[]⟩]
theorem cC:Dx tK [vK,vK,vK]=some (.tup [.sl (cK.map Col.d),.int .i64 0]):=by
 kernel_rfl
theorem inK:Dc tK [vK,vK,vK]:=⟨by kernel_rfl,by decide,by kernel_rfl⟩
def memo:HX:=[(Hl,[tK.d,.sl ([vK,vK,vK].map Va.d)],.d (.tup [.sl (cK.map Col.d),.int .i64 0]))]
theorem Xh (hS:Sh.on=true):Dg cfg memo:=Dg.cons (abe hS inK cC) Dg.nil
theorem Ue (hS:Sh.on=true):evL cfg Xd 0 [] []=some (.d (.bool (true)),[]):=aq1 (Xh hS) (n:=100) abv
