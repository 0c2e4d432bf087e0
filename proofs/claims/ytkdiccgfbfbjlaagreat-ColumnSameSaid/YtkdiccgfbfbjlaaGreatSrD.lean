import Derived.Test.YtkdiccgfbfbjlaaGreatSrC
import Derived.RangeFuncBox
import Derived.Shelf.Abstract
import Derived.RegionTactic
import Derived.Deep.LoopGhost
import Derived.Deep.Draws
import Derived.Deep.QuietTactic
import Derived.Deep.DeepMust
import Derived.Deep.RegionLaw
import Derived.Deep.DeepCutAuto
import Derived.Deep.CutBlock
namespace Go.Proofs.YtkdiccgfbfbjlaaGreat
open Go Go.Ev Go.RowKit
theorem XY (nd:List Nod) (p:Nat) (cs:List Col) (v:Va):GV nd p cs v=match nd[p]?,cs[p]? with
  |some x,some c=>if decide (c.here.length≥16384) then some (cs,false) else if v.null then some (cs.set p c.gone,true) else Dk nd x.1.kind v.i x.2.1 0 (cs.set p (c.more x.1.kind v.i v.n v.b v.kids.length)) v.kids
  |_,_=>none:=by
 cases v;rw[GV];rfl
set_option maxRecDepth 100000 in
set_option maxHeartbeats 6400000 in
theorem bk3:∀ (m:Nat) (v:Va),v.size≤m→∀ (F:Nat→Prop) (base:Nat) (hF:∀ b,F b→b<base) (B:Nat→Prop) (W:World) (gl cl:Nat) (nd:List Nod) (g N:Nat) (fs:List Fd) (cs:List Col) (p:Nat) (c0 c1 c2 c3 c4:Value) (r:List Col×Bool),
  Cu B W gl nd→(∀ b,B b→b<W.heap.size∧¬ BF g fs b)→nd.length≤cl→DV base W g N fs→Cl F W fs cs→Cb cs→cs.length=N→base≤W.heap.size→Fj F W [c0,c1,c2,c3,c4] v→GV nd p cs v=some r→N≤1000000→nd.length≤1000000→(∀ n,KB n v)→
  Calls Tryz.prog 29 #[.slice (some ⟨gl,0,none⟩) nd.length cl,.slice (some ⟨g,0,none⟩) N N,.int .i64 (p:Int),.agg #[c0,c1,c2,c3,c4]] W fun e W'=>e= .returned (.bool r.2)∧∃ fs',DV base W' g N fs'∧Cl F W' fs' r.1∧Cb r.1∧r.1.length=N∧Ci W W' (BF g fs) (BF g fs'):=by
 intro m
 induction m with
 |zero=>intro v h;have:=v.size_pos;omega
 | succ m IH=>
  replace IH:Aside _:=IH
  intro v h F base hF B W gl cl nd g N fs cs p c0 c1 c2 c3 c4 r hnd hB hcl inv hcls hcb hlen hb B7 hput hN hnl hvs;rw[XY] at hput;split at hput
  case h_2=>cases hput
  rename_i x c hx hc;obtain⟨rfl,rfl,rfl,r3,ka,kc,rfl,hkid⟩:=B7.form;obtain⟨ta,tl,tc,rfl⟩:∃ a n c,c3= .slice a n c:=by obtain⟨a,c,e,_⟩:=r3.EE;exact⟨_,_,_,e⟩
  have hone:=B7.one;have hone3:(Value.slice ta tl tc).oneCell'=true:=rfl;have hpN:p<N:=by rw[← hlen];exact(ab1.1 hc).1
  have hpn:p<nd.length:=(ab1.1 hx).1;have hcbc:=hcb c (List.mem_of_getElem? hc);have hg:=inv.lt (.inl rfl);have hgn:¬ g=W.heap.size:=abu;have gb:W.grownBy (W.alloc (.cells #[.bool v.null,.int .i64 v.i,.int .i64 v.n,(.slice ta tl tc),.slice ka v.kids.length kc] 81)) none:=World.grownBy_alloc W _ none;have S1:Stt F base g N (W.alloc (.cells #[.bool v.null,.int .i64 v.i,.int .i64 v.n,(.slice ta tl tc),.slice ka v.kids.length kc] 81)) (BF g fs) (W.alloc (.cells #[.bool v.null,.int .i64 v.i,.int .i64 v.n,(.slice ta tl tc),.slice ka v.kids.length kc] 81)) fs cs:= .start (inv.kept gb) (hcls.kept fun b hb'=>gb.block b (by have:=hF b hb';omega) abw)
  have FR0:Ci W (W.alloc (.cells #[.bool v.null,.int .i64 v.i,.int .i64 v.n,(.slice ta tl tc),.slice ka v.kids.length kc] 81)) (BF g fs) (BF g fs):= .grown gb abw fun b hb=> .inl hb
  have hbx:∀ j u,[.bool v.null,.int .i64 v.i,.int .i64 v.n,(.slice ta tl tc),.slice ka v.kids.length kc][j]? =some u→(W.alloc (.cells #[.bool v.null,.int .i64 v.i,.int .i64 v.n,(.slice ta tl tc),.slice ka v.kids.length kc] 81)).cell? ⟨W.heap.size,j,none⟩=some u:=fun j u hu=>by
    have:=kq W [.bool v.null,.int .i64 v.i,.int .i64 v.n,(.slice ta tl tc),.slice ka v.kids.length kc] 81 W.heap.size rfl j u hu;cases j with
    |zero=>simpa[Addr.add] using this
    |succ j=>simpa[Addr.add] using this
  have hbn:¬ BF g fs W.heap.size:=fun ho=>by have:=inv.lt ho;omega
  obtain⟨f0,a0,q0,hf0,e0,v0,own0,k0c,k0f⟩:=S1.field hc (k:=0) abu;have E0:f0.xs=c.here.map Value.bool:=e0;clear e0;have hl0:f0.xs.length=c.here.length:=by rw[E0,aby]
  rw[hl0] at v0 own0 k0c;rw[Nat.add_zero] at k0c k0f;have b0:=hbx 0 _ rfl;obtain⟨iB,hiB,hzB0,hzB1,hzB2⟩:=info_parts (P:=Tryz.prog) (e:=4) (z:= .bool false) (size:=1) (bytes:=1) abv;by_cases hfull:c.here.length≥16384
  · rw[if_pos (by simpa using hfull)] at hput
    cases hput;have A:Aside (Stt F base g N (W.alloc (.cells #[.bool v.null,.int .i64 v.i,.int .i64 v.n,(.slice ta tl tc),.slice ka v.kids.length kc] 81)) (BF g fs) (W.alloc (.cells #[.bool v.null,.int .i64 v.i,.int .i64 v.n,(.slice ta tl tc),.slice ka v.kids.length kc] 81)) fs cs):=S1
    replace FR0:Aside _:=FR0
    clear hone gb inv hcbc hg r3 B7 own0 hbx hkid hcls hnd hB S1 hf0 v0 E0 hl0
    go_enter Tryz.func29,Tryz.ntmps29
    go_wp2
    go_ret
    exact⟨rfl,fs,A.out.inv,A.out.cl,hcb,hlen,FR0.out⟩
  · rw[if_neg (by simpa using hfull)] at hput
    have hlt:c.here.length<16384:=abu
    replace hnd:Aside _:=hnd
    replace hB:Aside _:=hB
    replace hcls:Aside _:=hcls
    replace S1:Aside _:=S1
    replace hcb:Aside _:=hcb
    replace hx:Aside _:=hx
    replace hc:Aside _:=hc
    replace hkid:Aside _:=hkid
    replace hput:Aside _:=hput
    replace own0:Aside _:=own0
    replace B7:Aside _:=B7
    replace hf0:Aside _:=hf0
    replace v0:Aside _:=v0
    replace E0:Aside _:=E0
    replace FR0:Aside _:=FR0
    replace hbx:Aside _:=hbx
    replace hl0:Aside _:=hl0
    replace inv:Aside _:=inv
    replace r3:Aside _:=r3
    clear hone gb hg
    go_enter Tryz.func29,Tryz.ntmps29
    go_wp2
    generalize hW1:W.alloc (.cells #[.bool v.null,.int .i64 v.i,.int .i64 v.n,(.slice ta tl tc),.slice ka v.kids.length kc] 81)=W1 at *;generalize hbv:W.heap.size=bv at *;have n1:=am (o:= .cells #[.bool (!v.null)] 4) k0c
    go_cut [] from 22 to 34 (fun wx=>∃ fs1,Stt F base g N W1 (BF g fs) wx fs1 (cs.set p {c with here:=c.here++[!v.null]}))
    case first=>
      go_region_law
       ((refine dh rfl _ _ 51 rfl base 4 (.bool false) 1 rfl iB hiB hzB0 hzB1 hzB2 rfl abx (.slice a0 c.here.length q0) _ f0.xs rfl (World.ownsRow.alloc (World.ownsRow.drew (Aside.out own0)) _) ⟨W1.heap.size,0,none⟩ 1 (.bool (!v.null)) rfl (cr _ _ _) rfl abu (by have:=S1.out.inv.lt (.inl rfl);simp;omega) ?_
         intro v1 w1 hown1 hgrow1 hloc1;obtain⟨r1,s1,e1⟩:=d6 hown1;subst e1;obtain⟨k1c,k1f,k1b⟩:=S1.out.grown hf0.out v0.out (ag _ _ none) hgrow1;rw[Nat.add_zero] at k1c k1f;have S2:Aside (Stt F base g N W1 (BF g fs) (w1.setCell ⟨g,p*5,none⟩ (.slice r1 (c.here.length+1) s1)) _ (cs.set p {c with here:=c.here++[!v.null]})):=
           S1.out.push hF (ag _ _ none) (k:=0) hc.out abu hf0.out (by rw[hl0.out];exact hown1) (by rw[v0.out];exact hgrow1) (by rw[v0.out];exact hloc1.imp id fun h=>h)
             (fun w' _=>by show f0.xs++_=_;rw[E0.out,List.map_append];rfl) (fun w' j hj Ai f h=>by match j,Ai,h with|1,_,h=>exact h|2,_,h=>exact h|3,_,h=>exact h|4,_,h=>exact h)
         clear hown1 hgrow1 hloc1 k1b))
      all_goals go_wp2
      all_goals go_meet
      all_goals exact⟨_,S2.out⟩
    case rest=>
    obtain⟨fs1,S2⟩:=hcut;have b0':=S2.cell hbn b0
    replace S2:Aside _:=S2
    have hnd1:Cu B W1 gl nd:=by rw[← hW1];exact Cu.kept hnd.out fun b hb=>(World.grownBy_alloc W _ none).block b (by have:=(hB.out b hb).1;omega) abw
    have hsz1:W1.heap.size=bv+1:=by rw[← hW1,← hbv];simp
    have hnd2:Cu B wc gl nd:=hnd1.kept fun b hb=>S2.out.block (by have:=(hB.out b hb).1;omega) (hB.out b hb).2
    clear hnd hnd1 n1 k0c k0f b0 own0;rcases ab2 v.null with hn|hn
    · rw[hn] at b0'
      replace hn:Aside _:=hn
      replace hnd2:Aside _:=hnd2
      go_wp2
      go_ret
      have hput:=hput.out;rw[hn.out,if_pos rfl] at hput;cases hput;have S2:=S2.out;rw[hn.out] at S2;exact⟨rfl,fs1,S2.inv,S2.cl,Cb.set hcb.out p (c:=c.gone) (by simp[Col.gone];omega),by rw[List.length_set];exact hlen,FR0.out.trans S2.fr⟩
    · rw[hn] at b0'
      obtain⟨hgl,y1,y2,y3,z1,z2,z3,i3,i4,i5,kad,kcap,m0,m1,m2,m3,m4,m5,m6,mk⟩:=hnd2 p x hx.out;obtain⟨kd,hkd⟩:∃ kd,kd=x.1.kind:=⟨_,rfl⟩
      rw[← hkd] at m0
      replace hn:Aside _:=hn
      replace hkd:Aside _:=hkd
      replace mk:Aside _:=mk
      replace hnd2:Aside _:=hnd2
      clear hsz1
      go_upto_block 0 with(fail)
      generalize hbt:wc.heap.size=bt at *;generalize hW3:wc.alloc (.cells #[.int .i64 kd,.slice y1 y2 y3,.slice z1 z2 z3,.int .i64 i3,.int .i64 i4,.int .i64 i5] 25)=W3 at *;have hg3:wc.grownBy W3 none:=by rw[← hW3];exact World.grownBy_alloc _ _ _
      have hcw:=S2.out.inv.lt (.inl rfl);have hw1:=S2.out.fr.size;have hwbv:bv<W1.heap.size:=by rw[← hW1,← hbv];simp
      have S3:Stt F base g N W3 (BF g fs1) W3 fs1 (cs.set p {c with here:=c.here++[!v.null]}):= .start (S2.out.inv.kept hg3) (S2.out.cl.kept fun b hb=>hg3.block b (by have:=hF b hb;omega) abw)
      have FR1:Ci W W3 (BF g fs) (BF g fs1):=(FR0.out.trans S2.out.fr).trans (.grown hg3 abw fun b hb=> .inl hb)
      have hnd3:Cu B W3 gl nd:=Cu.kept hnd2.out fun b hb=>hg3.block b (by have:=(hB.out b hb).1;omega) abw
      have bx3:∀ j u,[Value.bool v.null,.int .i64 v.i,.int .i64 v.n,.slice ta tl tc,.slice ka v.kids.length kc][j]? =some u→W3.cell? ⟨bv,j,none⟩=some u:=fun j u hu=>by rw[← hW3];exact am (S2.out.cell hbn (hbx.out j u hu))
      have tb:W3.cell? ⟨bt,0,none⟩=some (.int .i64 kd):=by
       have:=kq wc [.int .i64 kd,.slice y1 y2 y3,.slice z1 z2 z3,.int .i64 i3,.int .i64 i4,.int .i64 i5] 25 wc.heap.size rfl 0 _ rfl;rw[← hW3,← hbt];exact this
      have hbt1:¬ BF g fs1 bt:=fun ho=>by have:=S2.out.inv.lt ho;omega
      have hbv1:¬ BF g fs1 bv:=fun ho=>by rcases S2.out.fr.CN _ ho with h|h<;>first|exact hbn h|omega
      have hB1:∀ b,B b→b<bv∧¬ BF g fs1 b:=fun b hb=>by
       obtain⟨h1,h2⟩:=hB.out b hb;exact⟨h1,fun ho=>by rcases S2.out.fr.CN _ ho with h|h<;>first|exact h2 h|omega⟩
      have hw3:W3.heap.size=bt+1:=by rw[← hW3,← hbt];simp
      have hbvt:bv<bt:=abu;have hc1:(cs.set p {c with here:=c.here++[!v.null]})[p]? =some {c with here:=c.here++[!v.null]}:=List.getElem?_set_self abu;have r33:Rd F W3 (.slice ta tl tc) (BA v.b):=Rd.mono r3.out fun b o u hb hu=>⟨hb,by rw[Ap (FR1.block b (by have:=hF b hb;omega) fun ho=>by have:=hF b hb;have:=inv.out.lt ho;omega)];exact hu⟩
      have hbB:base≤W3.heap.size:=abu;have hlt1:c.ints.length<16384∧c.ns.length<16384∧c.texts.length<16384∧c.lens.length<16384:=abu;obtain⟨hl1,hl2,hl3,hl4⟩:=hlt1;have hkn1:v.kids.length≤1000000:=(hvs 1).1
      replace S3:Aside _:=S3
      replace FR1:Aside _:=FR1
      replace hnd3:Aside _:=hnd3
      replace bx3:Aside _:=bx3
      replace hB1:Aside _:=hB1
      replace hc1:Aside _:=hc1
      replace r33:Aside _:=r33
      clear hW3 hg3 hcw hw1 hwbv hw3 hnd2 hB hbx b0' m0 m1 m2 m3 m4 m5 m6 mk S2 hbt
      go_cut [] from 41 to 104 (fun wx=>∃ fs2,Stt F base g N W3 (BF g fs1) wx fs2 (cs.set p (Col.mid kd v.i v.b v.kids.length {c with here:=c.here++[!v.null]})))
      case first=>
       by_cases t1:Ck kd=true
       · have T1:Aside _:=t1
         have T2:Aside _:=Si t1;obtain⟨f,fa,fq,hf,fe,fv,fown,fkc,fkf⟩:=S3.out.field hc1.out (k:=3) abu;have E:f.xs.length=c.texts.length∧∀ (i:Nat) x b,f.xs[i]? =some x→c.texts[i]? =some b→Rd F W3 x (BA b):=fe
         have hl:f.xs.length=c.texts.length:=E.1;clear fe;rw[hl] at fv fown fkc;obtain⟨iX,hiX,hzX0,hzX1,hzX2⟩:=info_parts (P:=Tryz.prog) (e:=65) (z:= .slice none 0 0) (size:=1) (bytes:=24) abv;have n1:=am (o:= .cells #[.slice ta tl tc] 65) fkc;have nb:=bx3.out 3 _ rfl;have n2:=am (o:= .cells #[.slice ta tl tc] 65) nb
         replace hf:Aside _:=hf
         replace fv:Aside _:=fv
         replace fown:Aside _:=fown
         replace E:Aside _:=E
         replace hl:Aside _:=hl
         go_wp2_with (go_at_call 57;refine(fz kd _).mono ?_;rintro e w' ⟨rfl,rfl⟩)
         go_region_law
           ((refine dh rfl _ _ 53 rfl base 65 (.slice none 0 0) 24 rfl iX hiX hzX0 hzX1 hzX2 rfl abx (.slice fa c.texts.length fq) _ f.xs rfl (World.ownsRow.alloc (World.ownsRow.drew (Aside.out fown)) _) ⟨W3.heap.size,0,none⟩ 1 (.slice ta tl tc) rfl (cr _ _ _) rfl abu (by have:=S3.out.inv.lt (.inl rfl);simp;omega) ?_
             intro v1 w1 hown1 hgrow1 hloc1;obtain⟨r1,s1,e1⟩:=d6 hown1;subst e1;obtain⟨k1c,k1f,k1b⟩:=S3.out.grown hf.out fv.out (ag _ _ none) hgrow1;have S4:Aside (Stt F base g N W3 _ (w1.setCell ⟨g,p*5+3,none⟩ (.slice r1 (c.texts.length+1) s1)) _ (((cs.set p {c with here:=c.here++[!v.null]})).set p {c with here:=c.here++[!v.null],texts:=c.texts++[v.b]})):=
               S3.out.push hF (ag _ _ none) (k:=3) hc1.out abu hf.out (by rw[hl.out];exact hown1) (by rw[fv.out];exact hgrow1) (by rw[fv.out];exact hloc1.imp id fun h=>h)
                 (fun w' hw=>FR.texts E.out hw r33.out) (fun w' j hj Ai f h=>by match j,Ai,h with|0,_,h=>exact h|1,_,h=>exact h|2,_,h=>exact h|4,_,h=>exact h)
             clear hown1 hgrow1 hloc1 k1b))
         all_goals go_wp2
         all_goals go_meet
         all_goals exact⟨_,by have:=S4.out;rw[List.set_set] at this;obtain⟨-,h10,h11,h12⟩:=T2.out;simpa[Col.mid,T1.out,h10,h11] using this⟩
       · have T1:Aside (Ck kd=false):=by show Ck kd=false;simpa using t1
         by_cases t2:kd=10
         · subst t2
           have n0:=bx3.out 4 _ rfl;obtain⟨f,fa,fq,hf,fe,fv,fown,fkc,fkf⟩:=S3.out.field hc1.out (k:=4) abu;have E:f.xs=c.lens.map (Value.int .i64):=fe;have hl:f.xs.length=c.lens.length:=by rw[E,aby]
           clear fe;rw[hl] at fv fown fkc;obtain⟨iX,hiX,hzX0,hzX1,hzX2⟩:=info_parts (P:=Tryz.prog) (e:=2) (z:= .int .i64 0) (size:=1) (bytes:=8) abv;have n1:=am (o:= .cells #[.int .i64 (v.kids.length:Int)] 2) fkc;have nb:=n0;have n2:=am (o:= .cells #[.int .i64 (v.kids.length:Int)] 2) nb
           replace hf:Aside _:=hf
           replace fv:Aside _:=fv
           replace fown:Aside _:=fown
           replace E:Aside _:=E
           replace hl:Aside _:=hl
           go_wp2_with (go_at_call 57;refine(fz _ _).mono ?_;rintro e w' ⟨rfl,rfl⟩)
           go_region_law
             ((refine dh rfl _ _ 52 rfl base 2 (.int .i64 0) 8 rfl iX hiX hzX0 hzX1 hzX2 rfl abx (.slice fa c.lens.length fq) _ f.xs rfl (World.ownsRow.alloc (World.ownsRow.drew (Aside.out fown)) _) ⟨W3.heap.size,0,none⟩ 1 (.int .i64 (v.kids.length:Int)) rfl (cr _ _ _) rfl abu (by have:=S3.out.inv.lt (.inl rfl);simp;omega) ?_
               intro v1 w1 hown1 hgrow1 hloc1;obtain⟨r1,s1,e1⟩:=d6 hown1;subst e1;obtain⟨k1c,k1f,k1b⟩:=S3.out.grown hf.out fv.out (ag _ _ none) hgrow1;have S4:Aside (Stt F base g N W3 _ (w1.setCell ⟨g,p*5+4,none⟩ (.slice r1 (c.lens.length+1) s1)) _ (((cs.set p {c with here:=c.here++[!v.null]})).set p {c with here:=c.here++[!v.null],lens:=c.lens++[(v.kids.length:Int)]})):=
                 S3.out.push hF (ag _ _ none) (k:=4) hc1.out abu hf.out (by rw[hl.out];exact hown1) (by rw[fv.out];exact hgrow1) (by rw[fv.out];exact hloc1.imp id fun h=>h)
                  (fun w' _=>by show f.xs++_=_;rw[E.out,List.map_append];rfl) (fun w' j hj Ai f h=>by match j,Ai,h with|0,_,h=>exact h|1,_,h=>exact h|2,_,h=>exact h|3,_,h=>exact h|j+4,Ai,h=>exact absurd abu Ai)
               clear hown1 hgrow1 hloc1 k1b))
           all_goals go_wp2
           all_goals go_meet
           all_goals exact⟨_,by have:=S4.out;rw[List.set_set] at this;simpa[Col.mid,show Ck 10=false from rfl] using this⟩
         · by_cases t3:kd=11
           · subst t3
             have n0:=bx3.out 4 _ rfl;obtain⟨q,hq,hq2⟩:∃ q:Int,IntKind.i64.wrap ((v.kids.length:Int) / 2)=q∧Aside (q=((v.kids.length / 2:Nat):Int)):=⟨_,rfl,by show IntKind.i64.wrap _=_;rw[bd abu abu];omega⟩
             obtain⟨f,fa,fq,hf,fe,fv,fown,fkc,fkf⟩:=S3.out.field hc1.out (k:=4) abu;have E:f.xs=c.lens.map (Value.int .i64):=fe;have hl:f.xs.length=c.lens.length:=by rw[E,aby]
             clear fe;rw[hl] at fv fown fkc;obtain⟨iX,hiX,hzX0,hzX1,hzX2⟩:=info_parts (P:=Tryz.prog) (e:=2) (z:= .int .i64 0) (size:=1) (bytes:=8) abv;have n1:=am (o:= .cells #[.int .i64 q] 2) fkc;have nb:=n0;have n2:=am (o:= .cells #[.int .i64 q] 2) nb
             replace hf:Aside _:=hf
             replace fv:Aside _:=fv
             replace fown:Aside _:=fown
             replace E:Aside _:=E
             replace hl:Aside _:=hl
             go_wp2_with (go_at_call 57;refine(fz _ _).mono ?_;rintro e w' ⟨rfl,rfl⟩)
             go_region_law
               ((refine dh rfl _ _ 52 rfl base 2 (.int .i64 0) 8 rfl iX hiX hzX0 hzX1 hzX2 rfl abx (.slice fa c.lens.length fq) _ f.xs rfl (World.ownsRow.alloc (World.ownsRow.drew (Aside.out fown)) _) ⟨W3.heap.size,0,none⟩ 1 (.int .i64 q) rfl (cr _ _ _) rfl abu (by have:=S3.out.inv.lt (.inl rfl);simp;omega) ?_
                 intro v1 w1 hown1 hgrow1 hloc1;obtain⟨r1,s1,e1⟩:=d6 hown1;subst e1;obtain⟨k1c,k1f,k1b⟩:=S3.out.grown hf.out fv.out (ag _ _ none) hgrow1;have S4:Aside (Stt F base g N W3 _ (w1.setCell ⟨g,p*5+4,none⟩ (.slice r1 (c.lens.length+1) s1)) _ (((cs.set p {c with here:=c.here++[!v.null]})).set p {c with here:=c.here++[!v.null],lens:=c.lens++[q]})):=
                  S3.out.push hF (ag _ _ none) (k:=4) hc1.out abu hf.out (by rw[hl.out];exact hown1) (by rw[fv.out];exact hgrow1) (by rw[fv.out];exact hloc1.imp id fun h=>h)
                   (fun w' _=>by show f.xs++_=_;rw[E.out,List.map_append];rfl) (fun w' j hj Ai f h=>by match j,Ai,h with|0,_,h=>exact h|1,_,h=>exact h|2,_,h=>exact h|3,_,h=>exact h|j+4,Ai,h=>exact absurd abu Ai)
                 clear hown1 hgrow1 hloc1 k1b))
             all_goals go_wp2
             all_goals go_meet
             all_goals exact⟨_,by have:=S4.out;rw[List.set_set] at this;rw[hq2.out] at this;simpa[Col.mid,show Ck 11=false from rfl] using this⟩
           · by_cases t4:kd=12
             · subst t4
               go_wp2_with (go_at_call 57;refine(fz _ _).mono ?_;rintro e w' ⟨rfl,rfl⟩)
               go_meet
               exact⟨_,by have:=S3.out;simpa[Col.mid,show Ck 12=false from rfl] using this⟩
             · have n0:=bx3.out 1 _ rfl
               obtain⟨f,fa,fq,hf,fe,fv,fown,fkc,fkf⟩:=S3.out.field hc1.out (k:=1) abu;have E:f.xs=c.ints.map (Value.int .i64):=fe;have hl:f.xs.length=c.ints.length:=by rw[E,aby]
               clear fe;rw[hl] at fv fown fkc;obtain⟨iX,hiX,hzX0,hzX1,hzX2⟩:=info_parts (P:=Tryz.prog) (e:=2) (z:= .int .i64 0) (size:=1) (bytes:=8) abv;have n1:=am (o:= .cells #[.int .i64 v.i] 2) fkc;have nb:=n0;have n2:=am (o:= .cells #[.int .i64 v.i] 2) nb
               replace hf:Aside _:=hf
               replace fv:Aside _:=fv
               replace fown:Aside _:=fown
               replace E:Aside _:=E
               replace hl:Aside _:=hl
               go_wp2_with (go_at_call 57;refine(fz _ _).mono ?_;rintro e w' ⟨rfl,rfl⟩)
               go_region_law
                 ((refine dh rfl _ _ 52 rfl base 2 (.int .i64 0) 8 rfl iX hiX hzX0 hzX1 hzX2 rfl abx (.slice fa c.ints.length fq) _ f.xs rfl (World.ownsRow.alloc (World.ownsRow.drew (Aside.out fown)) _) ⟨W3.heap.size,0,none⟩ 1 (.int .i64 v.i) rfl (cr _ _ _) rfl abu (by have:=S3.out.inv.lt (.inl rfl);simp;omega) ?_
                   intro v1 w1 hown1 hgrow1 hloc1;obtain⟨r1,s1,e1⟩:=d6 hown1;subst e1;obtain⟨k1c,k1f,k1b⟩:=S3.out.grown hf.out fv.out (ag _ _ none) hgrow1;have S4:Aside (Stt F base g N W3 _ (w1.setCell ⟨g,p*5+1,none⟩ (.slice r1 (c.ints.length+1) s1)) _ (((cs.set p {c with here:=c.here++[!v.null]})).set p {c with here:=c.here++[!v.null],ints:=c.ints++[v.i]})):=
                    S3.out.push hF (ag _ _ none) (k:=1) hc1.out abu hf.out (by rw[hl.out];exact hown1) (by rw[fv.out];exact hgrow1) (by rw[fv.out];exact hloc1.imp id fun h=>h)
                     (fun w' _=>by show f.xs++_=_;rw[E.out,List.map_append];rfl) (fun w' j hj Ai f h=>by match j,Ai,h with|0,_,h=>exact h|2,_,h=>exact h|3,_,h=>exact h|4,_,h=>exact h)
                   clear hown1 hgrow1 hloc1 k1b))
               all_goals go_wp2
               all_goals go_meet
               all_goals exact⟨_,by have:=S4.out;rw[List.set_set] at this;simpa[Col.mid,T1.out,t2,t3,t4] using this⟩
      case rest=>
      obtain⟨fs2,S3b⟩:=hcut;have tb2:=S3b.cell hbt1 tb;have bx4:∀ j u,[Value.bool v.null,.int .i64 v.i,.int .i64 v.n,.slice ta tl tc,.slice ka v.kids.length kc][j]? =some u→wc.cell? ⟨bv,j,none⟩=some u:=fun j u hu=>S3b.cell hbv1 (bx3.out j u hu)
      have hc2:(cs.set p (Col.mid kd v.i v.b v.kids.length {c with here:=c.here++[!v.null]}))[p]? =some (Col.mid kd v.i v.b v.kids.length {c with here:=c.here++[!v.null]}):=List.getElem?_set_self abu;have hbC:base≤wc.heap.size:=by have:=S3b.inv.lt (.inl rfl);omega
      have tb3:=tb
      replace S3b:Aside _:=S3b
      replace bx4:Aside _:=bx4
      replace hc2:Aside _:=hc2
      clear r33;clear tb
      go_upto_if 106 with(fail)
      go_cut [] from 107 to 118 (fun wx=>∃ fs3,Stt F base g N W3 (BF g fs1) wx fs3 (cs.set p (Col.nano kd v.n (Col.mid kd v.i v.b v.kids.length {c with here:=c.here++[!v.null]}))))
      case first=>
       by_cases t9:kd=9
       · subst t9
         have n0:=bx4.out 2 _ rfl;obtain⟨f,fa,fq,hf,fe,fv,fown,fkc,fkf⟩:=S3b.out.field hc2.out (k:=2) abu;have E:f.xs=c.ns.map (Value.int .i64):=fe;have hl:f.xs.length=c.ns.length:=by rw[E,aby]
         clear fe;rw[hl] at fv fown fkc;obtain⟨iX,hiX,hzX0,hzX1,hzX2⟩:=info_parts (P:=Tryz.prog) (e:=3) (z:= .int .i64 0) (size:=1) (bytes:=8) abv;have n1:=am (o:= .cells #[.int .i64 v.n] 3) fkc;have nb:=n0;have n2:=am (o:= .cells #[.int .i64 v.n] 3) nb
         replace hf:Aside _:=hf
         replace fv:Aside _:=fv
         replace fown:Aside _:=fown
         replace E:Aside _:=E
         replace hl:Aside _:=hl
         go_wp2
         go_region_law
           ((refine dh rfl _ _ 48 rfl base 3 (.int .i64 0) 8 rfl iX hiX hzX0 hzX1 hzX2 rfl abx (.slice fa c.ns.length fq) _ f.xs rfl (World.ownsRow.alloc (World.ownsRow.drew (Aside.out fown)) _) ⟨wc.heap.size,0,none⟩ 1 (.int .i64 v.n) rfl (cr _ _ _) rfl abu (by have:=S3b.out.inv.lt (.inl rfl);simp;omega) ?_
             intro v1 w1 hown1 hgrow1 hloc1;obtain⟨r1,s1,e1⟩:=d6 hown1;subst e1;obtain⟨k1c,k1f,k1b⟩:=S3b.out.grown hf.out fv.out (ag _ _ none) hgrow1;have S4:Aside (Stt F base g N W3 _ (w1.setCell ⟨g,p*5+2,none⟩ (.slice r1 (c.ns.length+1) s1)) _ ((cs.set p (Col.mid 9 v.i v.b v.kids.length {c with here:=c.here++[!v.null]})).set p {(Col.mid 9 v.i v.b v.kids.length {c with here:=c.here++[!v.null]}) with ns:=c.ns++[v.n]})):=
               S3b.out.push hF (ag _ _ none) (k:=2) hc2.out abu hf.out (by rw[hl.out];exact hown1) (by rw[fv.out];exact hgrow1) (by rw[fv.out];exact hloc1.imp id fun h=>h)
                 (fun w' _=>by show f.xs++_=_;rw[E.out,List.map_append];rfl) (fun w' j hj Ai f h=>by match j,Ai,h with|0,_,h=>exact h|1,_,h=>exact h|3,_,h=>exact h|4,_,h=>exact h)
             clear hown1 hgrow1 hloc1 k1b))
         all_goals go_wp2
         all_goals go_meet
         all_goals exact⟨_,by have:=S4.out;rw[List.set_set] at this;exact this⟩
       · go_wp2
         go_meet
         exact⟨_,by have:=S3b.out;simpa[Col.nano,t9] using this⟩
      case rest=>
      obtain⟨fs3,S5⟩:=hcut;have FR2:Ci W wc (BF g fs) (BF g fs3):=FR1.out.trans S5.fr;have tb5:=S5.cell hbt1 tb3;have bx5:∀ j u,[Value.bool v.null,.int .i64 v.i,.int .i64 v.n,.slice ta tl tc,.slice ka v.kids.length kc][j]? =some u→wc.cell? ⟨bv,j,none⟩=some u:=fun j u hu=>S5.cell hbv1 (bx3.out j u hu)
      have own5:∀ b,BF g fs3 b→BF g fs1 b∨W3.heap.size≤b:=S5.fr.CN
      have hw35:=S5.fr.size;have hbt3:bt<W3.heap.size:=World.block_lt_of_cell? _ _ tb3;have hbt5:¬ BF g fs3 bt:=fun ho=>by rcases own5 _ ho with h|h<;>first|exact hbt1 h|omega
      have hbv5:¬ BF g fs3 bv:=fun ho=>by rcases own5 _ ho with h|h<;>first|exact hbv1 h|omega
      have hB5:∀ b,B b→b<bv∧¬ BF g fs3 b:=fun b hb=>by
       obtain⟨h1,h2⟩:=hB1.out b hb;exact⟨h1,fun ho=>by rcases own5 _ ho with h|h<;>first|exact h2 h|omega⟩
      have hnd5:Cu B wc gl nd:=Cu.kept hnd3.out fun b hb=>S5.fr.block b (by have:=(hB1.out b hb).1;omega) (hB1.out b hb).2
      have hput5:Dk nd kd v.i x.2.1 0 (cs.set p (Col.nano kd v.n (Col.mid kd v.i v.b v.kids.length {c with here:=c.here++[!v.null]}))) v.kids=some r:=by
       have hput:=hput.out;rw[hn.out,if_neg abw,← hkd.out,Col.Xf] at hput;rw[hn.out];exact hput
      have cb5:Cb (cs.set p (Col.nano kd v.n (Col.mid kd v.i v.b v.kids.length {c with here:=c.here++[!v.null]}))):=Cb.set hcb.out p (by
       simp only[Col.nano,Col.mid];refine⟨?_,?_,?_,?_⟩<;>(repeat' split)<;>simp<;>omega)
      have len5:(cs.set p (Col.nano kd v.n (Col.mid kd v.i v.b v.kids.length {c with here:=c.here++[!v.null]}))).length=N:=by rw[List.length_set];exact hlen
      have L0:Aside (WZ F base g N wc (BF g fs3) nd kd v.i x.2.1 v.kids r wc fs3 (cs.set p (Col.nano kd v.n (Col.mid kd v.i v.b v.kids.length {c with here:=c.here++[!v.null]}))) 0):=⟨.start S5.inv S5.cl,cb5,len5,by rw[List.drop_zero];exact hput5⟩
      have hwcb:bt<wc.heap.size:=abu;have hO5:∀ b,BF g fs3 b→base≤b:=fun b ho=>(S5.inv.lt ho).1
      replace hO5:Aside _:=hO5
      have hF5:∀ b,F b→wc.heap[b]? =W.heap[b]? :=fun b hb=>FR2.block b (by have:=hF b hb;omega) fun ho=>by have:=hF b hb;have:=inv.out.lt ho;omega
      have hbC5:base≤wc.heap.size:=abu;generalize hC3:cs.set p (Col.nano kd v.n (Col.mid kd v.i v.b v.kids.length {c with here:=c.here++[!v.null]}))=cs3 at*
      replace FR2:Aside _:=FR2
      replace bx5:Aside _:=bx5
      replace hB5:Aside _:=hB5
      replace hnd5:Aside _:=hnd5
      replace hF5:Aside _:=hF5
      replace hvs:Aside _:=hvs
      replace h:Aside _:=h
      clear hC3 S5 cb5 len5 hput5 own5 hw35 hbt3 tb3 bx3 bx4 hB1 hnd3 FR1 hput FR0 S1 S3 S3b inv hc hc1 hc2 hf0 v0 E0 hl0 hcls hcb r3 hl1 hl2 hl3 hl4 hlt hfull hn hone3 hbt1 hbv1
      go_wp2
      go_loopw [11,12] (fun i k12 wl=>∃ (k:Nat) (fsk:List Fd) (csk:List Col),k≤v.kids.length∧i= .int .i64 k∧Aside (WZ F base g N wc (BF g fs3) nd kd v.i x.2.1 v.kids r wl fsk csk k)) (fun i _ _=>v.kids.length-(intOf i).toNat)
      case atStart=>exact⟨0,_,_,aco _,rfl,L0⟩
      case round=>
       obtain⟨k,fsk,csk,hk,rfl,L⟩:=hrel;have bxk:∀ j u,[Value.bool v.null,.int .i64 v.i,.int .i64 v.n,.slice ta tl tc,.slice ka v.kids.length kc][j]? =some u→wr.cell? ⟨bv,j,none⟩=some u:=fun j u hu=>L.out.st.cell hbv5 (bx5.out j u hu)
       have btk:=L.out.st.cell hbt5 tb5;have bk4:=bxk 4 _ rfl;by_cases hlt:k<v.kids.length
       · obtain⟨xk,hxk⟩:∃ y,v.kids[k]? =some y:=⟨_,ab0 hlt⟩
         have hrest:=L.out.rest;rw[adm hlt,(ab1.1 hxk).2] at hrest;obtain⟨q,c1,b,hq,hput1,hbt,hbf⟩:=ba8 hrest;obtain⟨ix,hix,e12,e11,e13,e0⟩:=Xn hq
         replace e12:Aside _:=e12
         replace e11:Aside _:=e11
         replace e13:Aside _:=e13
         replace e0:Aside _:=e0
         obtain⟨kb,ko,rfl,hFb,u0,u1,u2,u3,u4,m0,m1,m2,m3,m4,rx⟩:=hkid.out k xk hxk;have mvF:∀ b,F b→wr.heap[b]? =W.heap[b]? :=fun b hb=>(L.out.st.block (by have:=hF b hb;omega) fun ho=>by have:=hF b hb;have:=hO5.out b ho;omega).trans (hF5.out b hb)
         have mv:∀ o u,W.cell? (ad3 kb o)=some u→wr.cell? (ad3 kb o)=some u:=fun o u hu=>by rw[Ap (mvF kb hFb)];exact hu
         replace m0:=mv _ _ m0
         replace m1:=mv _ _ m1
         replace m2:=mv _ _ m2
         replace m3:=mv _ _ m3
         replace m4:=mv _ _ m4
         have hwk:=L.out.st.fr.size;have hBk:∀ b,B b→b<wr.heap.size∧¬ BF g fsk b:=fun b hb=>by
           obtain⟨h1,h2⟩:=hB5.out b hb;exact⟨by omega,fun ho=>by rcases L.out.st.fr.CN _ ho with h|h<;>first|exact h2 h|omega⟩
         have hndk:Cu B wr gl nd:=Cu.kept hnd5.out fun b hb=>L.out.st.block (by have:=(hB5.out b hb).1;omega) (hB5.out b hb).2
         obtain⟨hBg,_,_,_,_,_,_,_,_,_,nad,ncap,_,_,_,_,_,_,n6,nk⟩:=hndk p x hx.out;obtain⟨nb,rfl,hBn,n7⟩:=nk ix q hix;have hixl:ix<x.2.1.length:=(ab1.1 hix).1;have hszx:xk.size<v.size:=Va.A8 (List.mem_of_getElem? hxk);have hdr:wr.grownBy wr.drew none:=⟨rfl,rfl,rfl,ab5 _,fun _ _ _=>rfl⟩
         have ih:=IH.out xk (by have:=Aside.out h;omega) F base hF B wr.drew gl cl nd g N fsk csk q u0 u1 u2 u3 u4 (c1,b) (Cu.kept hndk fun _ _=>rfl) hBk hcl (L.out.st.inv.kept hdr) (Cl.kept L.out.st.cl fun _ _=>rfl) L.out.cb L.out.len (by show base≤wr.heap.size;omega) (Fj.kept (rx.kept mvF) fun _ _=>rfl) hput1 hN hnl (fun n=>(Aside.out hvs (n+1)).2 xk (List.mem_of_getElem? hxk))
         replace ih:=Calls.mono ih fun e w2 hh=>(⟨hh.1,hh.2.choose,hh.2.choose_spec.1,hh.2.choose_spec.2.1,hh.2.choose_spec.2.2.1,hh.2.choose_spec.2.2.2.1,(Ci.grown hdr abw fun b hb=> .inl hb).trans hh.2.choose_spec.2.2.2.2⟩:e= .returned (.bool b)∧∃ fs',DV base w2 g N fs'∧Cl F w2 fs' c1∧Cb c1∧c1.length=N∧Ci wr w2 (BF g fsk) (BF g fs'))
         have Ac:∀ {w2:World} {fs':List Fd},Ci wr w2 (BF g fsk) (BF g fs')→∀ b o u,b<wc.heap.size→¬ BF g fs3 b→wr.cell? ⟨b,o,none⟩=some u→w2.cell? ⟨b,o,none⟩=some u:=fun fr b o u h1 h2 hu=>by
           rw[World.cell?_of_block (w:=wr) (fr.block b abu fun ho=>by rcases L.out.st.fr.CN _ ho with h|h<;>first|exact h2 h|omega)];exact hu
         have hkb:kb<wc.heap.size∧¬ BF g fs3 kb:=⟨by have:=hF kb hFb;omega,fun ho=>by have:=hF kb hFb;have:=hO5.out kb ho;omega⟩
         have hgB:gl<wc.heap.size∧¬ BF g fs3 gl:=⟨by have:=(hB5.out gl hBg).1;omega,(hB5.out gl hBg).2⟩
         have hnB:nb<wc.heap.size∧¬ BF g fs3 nb:=⟨by have:=(hB5.out nb hBn).1;omega,(hB5.out nb hBn).2⟩
         have hbvl:bv<wc.heap.size:=abu;have z1:(0:Int)≤(ix:Int):=abu;have z2:(ix:Int)<(x.2.1.length:Int):=abu;have z3:(k:Int)<(v.kids.length:Int):=abu;have bk1:=bxk 1 _ rfl
         replace hq:Aside _:=hq
         replace hput1:Aside _:=hput1
         replace hbt:Aside _:=hbt
         replace hbf:Aside _:=hbf
         replace hix:Aside _:=hix
         replace Ac:Aside _:= @Ac
         replace ih:Aside _:=ih
         replace hxk:Aside _:=hxk
         replace hkb:Aside _:=hkb
         replace hgB:Aside _:=hgB
         replace hnB:Aside _:=hnB
         replace hBk:Aside _:=hBk
         clear mvF mv hndk nk rx hrest bxk hBg hBn hwk hszx
         go_upto_block 3 with(fail)
         go_cut [12] from 127 to 138 (fun s12 wx=>s12= .int .i64 (ix:Int)∧wx=wr)
         case first=>
           by_cases h12:kd=12
           · subst h12
             obtain rfl:=e12.out rfl
             go_wp2
             go_meet
             exact⟨rfl,rfl⟩
           · by_cases h11:kd=11
             · subst h11
               have e:=e11.out rfl
               replace e:Aside _:=e
               go_wp2
               go_meet
               exact⟨by rw[show(ix:Int)=(k:Int) % 2 by rw[e.out];omega],rfl⟩
             · by_cases h13:kd=13
               · subst h13
                 have e:=e13.out rfl;rw[e] at bk1
                 replace e:Aside _:=e
                 go_wp2
                 go_meet
                 exact⟨rfl,rfl⟩
               · obtain rfl:=e0.out h12 h11 h13
                 go_wp2
                 go_meet
                 exact⟨rfl,rfl⟩
         case rest=>
         obtain⟨rfl,hw⟩:=hcut;subst hw
         go_wp2
         go_region_held3 (fun w'=>w'.cell? ⟨gl,p*9+6,none⟩=some (.slice (some ⟨nb,0,none⟩) x.2.1.length ncap)∧w'.cell? ⟨nb,ix,none⟩=some (.int .i64 (q:Nat))∧w'.cell? ⟨bv,4,none⟩=some (.slice (some ⟨kb,ko,none⟩) v.kids.length kc)∧
           w'.cell? ⟨kb,ko+k*5,none⟩=some u0∧w'.cell? ⟨kb,ko+k*5+1,none⟩=some u1∧w'.cell? ⟨kb,ko+k*5+2,none⟩=some u2∧w'.cell? ⟨kb,ko+k*5+3,none⟩=some u3∧w'.cell? ⟨kb,ko+k*5+4,none⟩=some u4) (go_keep)
           ((go_at_call 29;refine Calls.mono (Aside.out ih) ?_;rintro e w2 ⟨rfl,fs',inv',cl',cb',len',fr'⟩
             have y0:=Ac.out fr' _ _ _ hkb.out.1 hkb.out.2 m0;have y1:=Ac.out fr' _ _ _ hkb.out.1 hkb.out.2 m1;have y2:=Ac.out fr' _ _ _ hkb.out.1 hkb.out.2 m2;have y3:=Ac.out fr' _ _ _ hkb.out.1 hkb.out.2 m3;have y4:=Ac.out fr' _ _ _ hkb.out.1 hkb.out.2 m4;have y5:=Ac.out fr' _ _ _ hgB.out.1 hgB.out.2 n6;have y6:=Ac.out fr' _ _ _ hnB.out.1 hnB.out.2 n7;have y7:=Ac.out fr' _ _ _ hbvl hbv5 bk4;have L1:Aside (DV base w2 g N fs'∧Cl F w2 fs' c1∧Cb c1∧c1.length=N∧Ci _ w2 (BF g fsk) (BF g fs')):=⟨inv',cl',cb',len',fr'⟩;clear inv' cl' cb' len' fr'))
         obtain⟨inv',cl',cb',len',fr'⟩:=L1.out;cases b with
         | true=>
           have L2:Aside (WZ F base g N _ (BF g fs3) nd kd v.i x.2.1 v.kids r w2 fs' c1 (k+1)):=⟨⟨inv',cl',L.out.st.fr.trans fr'⟩,cb',len',hbt.out rfl⟩;clear inv' cl' cb' len' fr' L1
           go_wp2
           go_roundw
           case rel=>exact⟨k+1,_,_,by omega,by go_num,L2⟩
           case measure=>simp[intOf];omega
         | false=>
           have hr:=hbf.out rfl;subst hr;have L2:Aside _:=FR2.out.trans (L.out.st.fr.trans fr');clear inv' cl' cb' len' fr'
           go_wp2
           go_ret
           exact⟨rfl,fs',L1.out.1,L1.out.2.1,L1.out.2.2.1,L1.out.2.2.2.1,L2.out⟩
       · have hkk:k=v.kids.length:=abu
         have hrest:=L.out.rest;rw[hkk,List.drop_length,Dk] at hrest;cases hrest;have L2:Aside _:=FR2.out.trans L.out.st.fr
         go_wp2
         go_ret
         exact⟨rfl,fsk,L.out.st.inv,L.out.st.cl,L.out.cb,L.out.len,L2.out⟩
