import Derived.Test.YtkdiccgfbfbjlaaGreatSrH
namespace Go.Proofs.YtkdiccgfbfbjlaaGreat
open Go Go.Ev Go.RowKit
def DP (F:Nat→Prop) (w:World) (ra:Option Addr) (vs:List Va):Prop:=∀ (k:Nat) x,vs[k]? =some x→∃ b o,ra=some (ad3 b o)∧F b∧∃ u0 u1 u2 u3 u4,
 w.cell? (ad3 b (o+k*5))=some u0∧w.cell? (ad3 b (o+k*5+1))=some u1∧w.cell? (ad3 b (o+k*5+2))=some u2∧w.cell? (ad3 b (o+k*5+3))=some u3∧w.cell? (ad3 b (o+k*5+4))=some u4∧Fj F w [u0,u1,u2,u3,u4] x
theorem DP.kept {F:Nat→Prop} {w w':World} {ra:Option Addr} {vs:List Va} (h:DP F w ra vs) (hk:∀ b,F b→w'.heap[b]? =w.heap[b]?):DP F w' ra vs:=fun k x hx=>by
 obtain⟨b,o,e,hF,u0,u1,u2,u3,u4,m0,m1,m2,m3,m4,r⟩:=h k x hx;have mv:∀ o u,w.cell? (ad3 b o)=some u→w'.cell? (ad3 b o)=some u:=fun o u hu=>by rw[Ap (hk b hF)];exact hu
 exact⟨b,o,e,hF,u0,u1,u2,u3,u4,mv _ _ m0,mv _ _ m1,mv _ _ m2,mv _ _ m3,mv _ _ m4,r.kept hk⟩
theorem Wt {F:Nat→Prop} {w:World} {vs:List Value} {t:Ty} (h:Ce F w vs t):Ce (· <w.heap.size) w vs t:=⟨h.1,fun i v c hv hc=>rd_lt (h.2 i v c hv hc)⟩
theorem i7 (w:World):w.grownBy w.drew none:=⟨rfl,rfl,rfl,ab5 _,fun _ _ _=>rfl⟩
theorem aq9 (t:Ty):∀ vs:List Va,Bg t vs=0→∀ x∈vs,Cn t x=0
 | [],_,x,hx=>by simp at hx
 | v::r,h,x,hx=>by
  rw[bah] at h;split at h
  · rename_i c;rw[h] at c;simp at c
  · rename_i c
    rcases ach.1 hx with rfl|hx
    · have c:Gy t x=0:=by simpa using c
      unfold Gy at c;split at c
      · cases c
      · exact c
    · exact aq9 t r h x hx
theorem r7 {G:Nat→Prop} {w:World} {v:Value} {d:D} (n:Int) (h:Rd G w v d):Rd G w (.tuple #[v,.int .i64 n]) (.tup [d,.int .i64 n]):=by
 refine .tup [v,.int .i64 n] [d,.int .i64 n] rfl fun i u c hu hc=> ?_
 match i,hu,hc with
 |0,hu,hc=>cases hu;cases hc;exact h
 |1,hu,hc=>cases hu;cases hc;exact .int _ _
 |i+2,hu,hc=>simp at hu
set_option maxRecDepth 100000 in
set_option maxHeartbeats 1600000 in
theorem als {t:Ty} {vs:List Va} {y:D} (hin:Dc t vs) (hy:Dx t vs=some y) {F:Nat→Prop} {w:World} (hF:∀ b,F b→b<w.heap.size) {a1 a2 ra:Option Addr} {n1 n2 m1 m2 rc:Nat} {i0 i3 i4 i5:Int}
   (hrt:Ce F w [.int .i64 i0,.slice a1 n1 m1,.slice a2 n2 m2,.int .i64 i3,.int .i64 i4,.int .i64 i5] t) (hrows:DP F w ra vs):
   Calls Tryz.prog 10 #[.agg #[.int .i64 i0,.slice a1 n1 m1,.slice a2 n2 m2,.int .i64 i3,.int .i64 i4,.int .i64 i5],.slice ra vs.length rc] w fun e w'=>∃ v,e= .returned v∧Rd (fun b=>F b∨w.heap.size≤b) w' v y∧w.grownBy w' none:=by
 letI:Sh:=⟨false⟩
 obtain⟨hfw,hvl,hok⟩:=hin;have g0:w.grownBy (w.alloc (.cells #[.int .i64 i0,.slice a1 n1 m1,.slice a2 n2 m2,.int .i64 i3,.int .i64 i4,.int .i64 i5] 25)) none:=World.grownBy_alloc w _ none;have hbox:∀ w1,(w.alloc (.cells #[.int .i64 i0,.slice a1 n1 m1,.slice a2 n2 m2,.int .i64 i3,.int .i64 i4,.int .i64 i5] 25)).grownBy w1 none→∀ j u,[Value.int .i64 i0,.slice a1 n1 m1,.slice a2 n2 m2,.int .i64 i3,.int .i64 i4,.int .i64 i5][j]? =some u→w1.cell? ⟨w.heap.size,j,none⟩=some u:=fun w1 g1 j u hu=>by
   rw[World.cell?_of_block (w:=(w.alloc (.cells #[.int .i64 i0,.slice a1 n1 m1,.slice a2 n2 m2,.int .i64 i3,.int .i64 i4,.int .i64 i5] 25))) (g1.block _ abw abw)];have:=kq w [.int .i64 i0,.slice a1 n1 m1,.slice a2 n2 m2,.int .i64 i3,.int .i64 i4,.int .i64 i5] 25 w.heap.size rfl j u hu;rw[show(⟨w.heap.size,j,none⟩:Addr)=(⟨w.heap.size,0,none⟩:Addr).add j by cases j<;>simp[Addr.add]]
   exact this
 have h0:=tq hfw (asi (qn (alo hrt) g0));by_cases hc:(BP 1 0 t).2=0
 · have hsz:=tp hc
   have h1:∀ w1,(w.alloc (.cells #[.int .i64 i0,.slice a1 n1 m1,.slice a2 n2 m2,.int .i64 i3,.int .i64 i4,.int .i64 i5] 25)).grownBy w1 none→Calls Tryz.prog 11 #[.agg #[.int .i64 i0,.slice a1 n1 m1,.slice a2 n2 m2,.int .i64 i3,.int .i64 i4,.int .i64 i5]] w1
      fun e w2=>∃ gl N cl,e= .returned (.slice (some ⟨gl,0,none⟩) N cl)∧N=(Bq 0 (-1) 1 t).length∧N≤cl∧N≤1000∧Cu (· <w2.heap.size) w2 gl (Bq 0 (-1) 1 t)∧w1.grownBy w2 none:=fun w1 g1=>by
    have g01:=g0.trans g1;have hr1:=Wt (hrt.kept (W':=w1) fun b hb=>g01.block b (hF b hb) abw)
    refine Calls.mono (zl hfw hc hr1) ?_
    rintro e w2 ⟨l,ns,rfl,inv,sig,rd,g2⟩
    have Ai:ns≠[]:=by rintro rfl;rw[jk] at sig;cases sig
    obtain⟨gl,cl,e⟩:=inv.V9 Ai;subst e;have hl:ns.length=(Bq 0 (-1) 1 t).length:=by rw[← sig,aby]
    have hnd:=(Cu.of inv rd).weak fun b hb=>(inv.lt hb).2
    rw[sig] at hnd;refine⟨gl,_,cl,rfl,hl,?_,by rw[hl,gc];omega,hnd,g2⟩
    rcases inv.row.2 with⟨h,_⟩|⟨_,_,_,h,_,_,h2,_⟩
    · cases h
    · cases h;exact h2
   rw[hc] at h0;unfold Dx at hy;rw[hc,if_neg abx] at hy;have hgd:∀ m,Gp m t:=fun m=>zy m t 1 0 hc
   have hovs:=ble vs hok;have hts:Aside (t.size≤100):=hsz;have hrt':∀ w1,w.grownBy w1 none→Rd CE w1 (.agg #[.int .i64 i0,.slice a1 n1 m1,.slice a2 n2 m2,.int .i64 i3,.int .i64 i4,.int .i64 i5]) t.d:=fun w1 g1=>asi (qn (alo hrt) g1)
   have hrows':∀ w1,w.grownBy w1 none→DP F w1 ra vs:=fun w1 g1=>hrows.kept fun b hb=>g1.block b (hF b hb) abw
   obtain⟨nd,hnd0⟩:∃ nd,nd=Bq 0 (-1) 1 t:=⟨_,rfl⟩
   rw[← hnd0] at h1;have hty:t.size=nd.length:=by rw[hnd0,gc]
   unfold P7 at hy;rw[← hnd0,hty] at hy;have hyb:∀ b,Bg t vs=b→¬ b=0→y= .tup [.sl [],.int .i64 b]:=fun b h1 h2=>by
    rw[h1,if_pos (by simpa using h2)] at hy
    exact(Option.some.inj hy).symm
   replace hyb:Aside _:=hyb
   replace h0:Aside _:=h0
   replace h1:Aside _:=h1
   replace hy:Aside _:=hy
   replace hgd:Aside _:=hgd
   replace hovs:Aside _:=hovs
   replace hrt':Aside _:=hrt'
   replace hrows':Aside _:=hrows'
   replace hbox:Aside _:=hbox
   replace hnd0:Aside _:=hnd0
   replace hok:Aside _:=hok
   replace g0:Aside _:=g0
   replace hF:Aside _:=hF
   clear hrt hrows hc hfw hsz hty
   go_enter Tryz.func10,Tryz.ntmps10
   go_wp2_with (first
    | (go_at_call 27;go_must (refine Calls.mono (Aside.out h0) ?_;rintro e w1 ⟨rfl,g1⟩;have b0:=hbox.out _ g1 0 _ rfl;have b1:=hbox.out _ g1 1 _ rfl;have b2:=hbox.out _ g1 2 _ rfl;have b3:=hbox.out _ g1 3 _ rfl;have b4:=hbox.out _ g1 4 _ rfl;have b5:=hbox.out _ g1 5 _ rfl;replace g1:Aside _:=g1))
    | (go_at_call 11;go_must (refine Calls.mono (Aside.out h1 _ g1.out) ?_;rintro e w2 ⟨gl,N,cl,rfl,hN,hcl,hN1,hnd,g2⟩;replace hnd:Aside _:=hnd;replace hN:Aside _:=hN;replace g2:Aside _:=g2))
    |go_in)
   have gw2:Aside (w.grownBy w2 none):=g0.out.trans (g1.out.trans g2.out);have hbx2:Aside (∀ w1,w2.grownBy w1 none→∀ j u,[Value.int .i64 i0,.slice a1 n1 m1,.slice a2 n2 m2,.int .i64 i3,.int .i64 i4,.int .i64 i5][j]? =some u→w1.cell? ⟨w.heap.size,j,none⟩=some u):=fun w1 gg=>hbox.out _ ((g1.out.trans g2.out).trans gg)
   have L0:Aside (w2.grownBy w2 none∧Bg t (vs.drop 0)=Bg t vs):=⟨⟨rfl,rfl,rfl,ab5 _,fun _ _ _=>rfl⟩,rfl⟩
   clear b0 b1 b2 b3 b4 b5 g1 g2 hbox h0 h1 g0
   go_loopw [8,9] (fun i f wl=>∃ k:Nat,k≤vs.length∧i= .int .i64 k∧Aside (w2.grownBy wl none∧Bg t (vs.drop k)=Bg t vs)) (fun i _ _=>vs.length-(intOf i).toNat)
   case atStart=>exact⟨0,aco _,rfl,L0⟩
   case round=>
    obtain⟨k,hk,rfl,L⟩:=hrel;by_cases hlt:k<vs.length
    · obtain⟨x,hx⟩:∃ x,vs[k]? =some x:=⟨_,ab0 hlt⟩
      have hwr:w.grownBy wr none:=gw2.out.trans L.out.1;obtain⟨kb,ko,rfl,hFb,u0,u1,u2,u3,u4,r0,r1,r2,r3,r4,rx⟩:=hrows'.out wr hwr k x hx;have c0:=hbx2.out _ L.out.1 0 _ rfl;have c1:=hbx2.out _ L.out.1 1 _ rfl;have c2:=hbx2.out _ L.out.1 2 _ rfl;have c3:=hbx2.out _ L.out.1 3 _ rfl;have c4:=hbx2.out _ L.out.1 4 _ rfl;have c5:=hbx2.out _ L.out.1 5 _ rfl;have ih:=aax hgd.out (DJ hovs.out (List.mem_of_getElem? hx)) (w:=wr.drew) (hrt'.out _ (hwr.trans (i7 _))) (asi (qn (Wn rx) (i7 _)));obtain⟨f,hf⟩:∃ f,Cn t x=f:=⟨_,rfl⟩
      rw[hf] at ih;have hnull:u0= .bool x.null:=rx.form.1;subst hnull;have hkb:=hF.out kb hFb;have hws:=hwr.size;have hw2s:=gw2.out.size;have hbs:w.heap.size<wr.heap.size:=World.block_lt_of_cell? _ _ c0;have Ac:∀ {w3:World},wr.drew.grownBy w3 none→∀ b o u,b<wr.heap.size→wr.cell? ⟨b,o,none⟩=some u→w3.cell? ⟨b,o,none⟩=some u:=fun gg b o u h1 hu=>by
        rw[World.cell?_of_block (w:=wr) (gg.block b h1 abw)];exact hu
      have hbad:Bg t (vs.drop k)=if Gy t x !=0 then Gy t x else Bg t (vs.drop (k+1)):=by
        rw[adm hlt,(ab1.1 hx).2,bah]
      unfold Gy at hbad;rw[hf] at hbad;have z3:(k:Int)<(vs.length:Int):=abu;have hkr:kb<wr.heap.size:=abu
      replace ih:Aside _:=ih
      replace Ac:Aside _:= @Ac
      replace hbad:Aside _:=hbad
      replace hf:Aside _:=hf
      replace hx:Aside _:=hx
      replace hwr:Aside _:=hwr
      clear rx hws hw2s
      go_wp2
      go_region_held3 (fun w'=>w'.cell? ⟨w.heap.size,0,none⟩=some (.int .i64 i0)∧w'.cell? ⟨w.heap.size,1,none⟩=some (.slice a1 n1 m1)∧w'.cell? ⟨w.heap.size,2,none⟩=some (.slice a2 n2 m2)∧w'.cell? ⟨w.heap.size,3,none⟩=some (.int .i64 i3)∧w'.cell? ⟨w.heap.size,4,none⟩=some (.int .i64 i4)∧w'.cell? ⟨w.heap.size,5,none⟩=some (.int .i64 i5)∧
          w'.cell? ⟨kb,ko+k*5,none⟩=some (.bool x.null)∧w'.cell? ⟨kb,ko+k*5+1,none⟩=some u1∧w'.cell? ⟨kb,ko+k*5+2,none⟩=some u2∧w'.cell? ⟨kb,ko+k*5+3,none⟩=some u3∧w'.cell? ⟨kb,ko+k*5+4,none⟩=some u4) (go_keep)
        ((go_at_call 28;refine Calls.mono (Aside.out ih) ?_;rintro e w3 ⟨rfl,gg⟩
          have d0:=Ac.out gg _ _ _ hbs c0;have d1:=Ac.out gg _ _ _ hbs c1;have d2:=Ac.out gg _ _ _ hbs c2;have d3:=Ac.out gg _ _ _ hbs c3;have d4:=Ac.out gg _ _ _ hbs c4;have d5:=Ac.out gg _ _ _ hbs c5;have e0:=Ac.out gg _ _ _ hkr r0;have e1:=Ac.out gg _ _ _ hkr r1;have e2:=Ac.out gg _ _ _ hkr r2;have e3:=Ac.out gg _ _ _ hkr r3;have e4:=Ac.out gg _ _ _ hkr r4
          replace gg:Aside _:=gg))
      by_cases hz:f=0
      · subst hz
        have hb:=hbad.out;cases hxn:x.null with
        | true=>
          rw[hxn] at e0 hb;have hyy:=hyb.out 1 (L.out.2.symm.trans hb) abx;subst hyy;have G:Aside _:=hwr.out.trans ((i7 wr).trans gg.out);clear hb d0 d1 d2 d3 d4 d5 e1 e2 e3 e4
          go_wp2
          go_ret2
          exact⟨_,rfl,r7 1 (.slA _ _),G.out⟩
        | false=>
          rw[hxn] at e0 hb;have L1:Aside (w2.grownBy w3 none∧Bg t (vs.drop (k+1))=Bg t vs):=⟨L.out.1.trans ((i7 wr).trans gg.out),hb.symm.trans L.out.2⟩;clear hb d0 d1 d2 d3 d4 d5 e1 e2 e3 e4
          go_wp2
          go_roundw
          case rel=>exact⟨k+1,by omega,by go_num,L1⟩
          case measure=>simp[intOf];omega
      · have hb:Bg t (vs.drop k)=f:=by
          have e1:(if(f==0&&x.null)=true then 1 else f)=f:=if_neg (by simp[hz])
          rw[hbad.out,e1,if_pos (by simpa using hz)]
        have hyy:=hyb.out f (L.out.2.symm.trans hb) hz;subst hyy;have G:Aside _:=hwr.out.trans ((i7 wr).trans gg.out);clear hb d0 d1 d2 d3 d4 d5 e1 e2 e3 e4
        go_wp2
        go_ret2
        exact⟨_,rfl,r7 f (.slA _ _),G.out⟩
    · have hkk:k=vs.length:=abu
      have hb0:Bg t vs=0:=by rw[← L.out.2,hkk,List.drop_length,Bg]
      have hy2:=hy.out;rw[hb0,if_neg abx] at hy2;obtain⟨r,hr,hry⟩:=abz.1 hy2;have gwr:w.grownBy wr none:=gw2.out.trans L.out.1;obtain⟨w4,hmk,inv4,g4⟩:=bll wr wr.heap.size N hN1 (ab5 _);have S4:Stt F wr.heap.size wr.heap.size N w4 (BF wr.heap.size (fs0 N)) w4 (fs0 N) (List.replicate N Col.nil):= .start inv4 (mK F w4 N);have L4:Aside (WY F wr.heap.size wr.heap.size N w4 (BF wr.heap.size (fs0 N)) nd vs r w4 (fs0 N) (List.replicate N Col.nil) 0):=⟨S4,nB N,by simp,by rw[List.drop_zero,hN.out];exact hr⟩
      have hnd4:Aside (Cu (· <wr.heap.size) wr gl nd):=Cu.weak (Cu.kept (B:=(· <w2.heap.size)) hnd.out fun b hb=>L.out.1.block b hb abw) fun b hb=>ac1 hb L.out.1.size
      have g4':Aside (wr.grownBy w4 none):=g4;have gwr':Aside (w.grownBy wr none):=gwr;have ow4:Aside (∀ b,BF wr.heap.size (fs0 N) b→b=wr.heap.size):=fun b hb=>by
        rcases hb with h|⟨f,hf,h⟩
        · exact h
        · rw[(adr.1 hf).2] at h;cases h
      have hgs:=inv4.lt (.inl rfl);have hws:=gwr.size;have hall:Aside (∀ x∈vs,Cn t x=0):=aq9 t vs hb0
      have gw4:Aside (w.grownBy w4 none):=gwr.trans g4;have rows4:Aside (DP F w4 ra vs):=hrows'.out w4 (gwr.trans g4);have hnd5:Aside (Cu (· <wr.heap.size) w4 gl nd):=Cu.kept hnd4.out fun b hb=>g4.block b hb abw
      have hFb:Aside (∀ b,F b→b<wr.heap.size):=fun b hb=>ac1 (hF.out b hb) hws
      have hs4:=g4.size
      replace hry:Aside _:=hry
      generalize hbase:wr.heap.size=base at *;clear g4 gwr inv4 S4 hy2 hr L hb0 hbx2 gw2 hkk hk hnd4 g4' gwr' hbase
      go_wp2
      go_loopw [11] (fun i wl=>∃ (k:Nat) (fsk:List Fd) (csk:List Col),k≤vs.length∧i= .int .i64 k∧Aside (WY F base base N w4 (BF base (fs0 N)) nd vs r wl fsk csk k)) (fun i _=>vs.length-(intOf i).toNat)
      case atStart=>exact⟨0,_,_,aco _,rfl,L4⟩
      case round=>
        obtain⟨k,fsk,csk,hk,rfl,L⟩:=hrel;have fr:=L.out.st.fr;have hblk:∀ b,b<base→wr.heap[b]? =w4.heap[b]? :=fun b hb=>fr.block b abu fun ho=>by have:=ow4.out b ho;omega
        have hgr:w.grownBy wr none:=⟨fr.os.trans gw4.out.os,fr.tape.trans gw4.out.tape,fr.output.trans gw4.out.output,ac7 gw4.out.size fr.size,fun b hb _=>(hblk b abu).trans (gw4.out.block b hb abw)⟩
        have hfs:=fr.size;by_cases hlt:k<vs.length
        · obtain⟨x,hx⟩:∃ x,vs[k]? =some x:=⟨_,ab0 hlt⟩
          have hm:=List.mem_of_getElem? hx;obtain⟨kb,ko,rfl,hFk,u0,u1,u2,u3,u4,r0,r1,r2,r3,r4,rx⟩:=DP.kept rows4.out (fun b hb=>hblk b (hFb.out b hb)) k x hx
          have hrest:=L.out.rest;rw[adm hlt,(ab1.1 hx).2] at hrest;obtain⟨c1,b,hput,hbt,hbf⟩:=aj2 hrest;have hB:∀ b,b<base→b<wr.heap.size∧¬ BF base fsk b:=fun b hb=>⟨by omega,fun ho=>by
            rcases fr.CN _ ho with h|h
            · have:=ow4.out b h;omega
            · omega⟩
          have ih:=bk3 x.size x (ab5 _) F base hFb.out (· <base) wr gl cl nd base N fsk csk 0 u0 u1 u2 u3 u4 (c1,b) (Cu.kept (B:=(· <base)) hnd5.out hblk) hB (by rw[← hN.out];exact hcl) L.out.st.inv L.out.st.cl L.out.cb L.out.len abu rx hput abu (by rw[← hN.out];omega)
            (fun m=>bl8 m t x (aqs m t x (hgd.out m) (by have:=hts.out;omega) (DJ hovs.out hm) (hall.out x hm)))
          rw[← hN.out,show((0:Nat):Int)=0 from rfl] at ih
          have z3:(k:Int)<(vs.length:Int):=abu
          replace ih:Aside _:=ih
          replace hbt:Aside _:=hbt
          replace hbf:Aside _:=hbf
          replace hx:Aside _:=hx
          replace hgr:Aside _:=hgr
          replace hblk:Aside _:=hblk
          replace fr:Aside _:=fr
          clear hB hput hrest rx hm
          go_wp2_with (first
            | (go_at_call 29;go_must (refine Calls.mono (Aside.out ih) ?_;rintro e w5 ⟨rfl,fs',q⟩;replace q:Aside _:=q;cases b))
            |go_in)
          · have hr:=hbf.out trivial
            subst hr;have hyy:=hry.out;rw[if_neg abw] at hyy;subst hyy;obtain⟨inv',cl',cb',len',fr'⟩:=q.out;have G:Aside (w.grownBy w5 none):=⟨fr'.os.trans hgr.out.os,fr'.tape.trans hgr.out.tape,fr'.output.trans hgr.out.output,ac7 hgr.out.size fr'.size,fun b hb _=>(fr'.block b abu fun ho=>by
              rcases fr.out.CN _ ho with h|h
              · have:=ow4.out b h;omega
              · omega).trans (hgr.out.block b hb abw)⟩
            clear inv' cl' cb' len' fr'
            go_ret2
            exact⟨_,rfl,r7 4 (.slA _ _),G.out⟩
          · obtain⟨inv',cl',cb',len',fr'⟩:=q.out
            exact⟨⟨k+1,fs',c1,by omega,by go_num,⟨⟨inv',cl',fr.out.trans fr'⟩,cb',len',hbt.out trivial⟩⟩,by simp[intOf];omega⟩
        · have hkk:k=vs.length:=abu
          have hrest:=L.out.rest;rw[hkk,List.drop_length,Cv] at hrest;cases hrest;have hyy:=hry.out;rw[if_pos rfl] at hyy;subst hyy;have G:Aside _:=hgr;clear hgr fr hblk
          go_wp2
          go_ret2
          exact⟨_,rfl,r7 0 (YM L.out.st.inv L.out.st.cl L.out.len (fun b hb=> .inl hb) fun b hb=> .inr abu),G.out⟩
 · obtain⟨e0,he0⟩:∃ e0,(BP 1 0 t).2=e0:=⟨_,rfl⟩
   unfold Dx at hy;rw[he0] at h0 hy hc;rw[if_pos (by simpa using hc)] at hy
   obtain rfl:=Option.some.inj hy
   replace h0:Aside _:=h0
   replace g0:Aside _:=g0
   clear hrt hrows hy he0 hbox hF
   go_enter Tryz.func10,Tryz.ntmps10
   go_wp2_with (first
    | (go_at_call 27;go_must (refine Calls.mono (Aside.out h0) ?_;rintro e w1 ⟨rfl,g1⟩;replace g1:Aside _:=g1))
    |go_in)
   go_ret2
   exact⟨_,rfl,r7 e0 (.slA _ _),g0.out.trans g1.out⟩
