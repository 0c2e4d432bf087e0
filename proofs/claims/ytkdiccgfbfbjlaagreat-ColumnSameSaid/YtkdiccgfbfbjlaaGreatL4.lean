import Derived.Test.YtkdiccgfbfbjlaaGreatL3
import Derived.Laws.IdiomStrings
import Derived.RangeFuncSeq
import Derived.CallsIn
namespace Go.Ev
open Go
section
variable {P:Program} {cfg:Cfg} {x:Cx} {N dep:Nat} {s:Get} {a:Act} {w:World}
theorem bdf {dT sT ty elem:TypeId} {b o dLen dCap z n:Nat} {y:Value} {cs:List Value} (hu:P.underlying dT=some (.slice elem)) (hz:BO P elem=some z)
  (hlen:(Builtin.lenOf y).run P w= .ok n w) (hcs:(Builtin.firstCells z (min n dLen) y).run P w= .ok cs.toArray w)
  (hc:∀ j,j<cs.length→(w.cell? ⟨b,o+j,none⟩).isSome=true) (hf:∀ j,j<cs.length→w.frozen? ⟨b,o+j,none⟩=false) (h1:∀ v∈cs,v.oneCell'=true):
  (Builtin.copy_ #[dT,sT] ty #[.slice (some (ad3 b o)) dLen dCap,y]).run P w= .ok (goInt ((min n dLen:Nat):Int)) (w.setCells b o cs):=by
 have Bz:=run_storeCells_cells (P:=P) b o cs 0 w (by simpa using hc) (by simpa using hf) h1
 simp only[Nat.add_zero] at Bz;have hsz:=bg (w:=w) hz;simp only[Builtin.copy_,List.getElem?_toArray,List.getElem?_cons_zero,List.getElem?_cons_succ,Sem.run_bind,run_underlying hu,Result.andThen_ok,hlen,hsz,Sem.run_pure];rw[show Nat.min n dLen=min n dLen from rfl,hcs]
 simp only[Result.andThen_ok,Bz,Sem.run_bind,Sem.run_pure]
theorem Arr.over {b o cap z off:Nat} {es ys:List D} (A:Arr (AE x) w b o cap z es) (hb:x.ow b≠none) (Ad:es.length≤cap) (hoff:off+ys.length≤es.length) {news:List Value} (hn:news.length=ys.length*z) (hz:∀ e∈ys,e.cells.length=z)
   (hs:∀ (i:Nat) e,ys[i]? =some e→∀ (j:Nat) c,e.cells[j]? =some c→c.AP=true∧∃ v,news[i*z+j]? =some v∧Rd (AE x) w v c∧v.oneCell'=true):
   Arr (AE x) (w.setCells b (o+off*z) news) b o cap z (es.take off++ys++es.drop (off+ys.length)):=by
 have hmono:∀ b' o' u,AE x b'→w.cell? (ad3 b' o')=some u→AE x b'∧(w.setCells b (o+off*z) news).cell? (ad3 b' o')=some u:=fun b' o' u h1 h2=>
   ⟨h1,bp h2 (fun e=>absurd h1 (by rw[e];exact hb))⟩
 have hle:(off+ys.length)*z≤es.length*z:=ac0 z hoff;have hle2:es.length*z≤cap*z:=ac0 z Ad;rw[ac6] at hle;have hget:∀ (i:Nat) e,(es.take off++ys++es.drop (off+ys.length))[i]? =some e→(off≤i∧i<off+ys.length∧ys[i-off]? =some e)∨((i<off∨off+ys.length≤i)∧es[i]? =some e):=by
   intro i e he;have ht:(es.take off).length=off:=by simp;omega
   by_cases h1:i<off
   · rw[ac4,ada abu,List.getElem?_take] at he
     rw[if_pos h1] at he;exact .inr ⟨.inl h1,he⟩
   · by_cases h2:i<off+ys.length
     · rw[ac4,List.getElem?_append_right abu,ht,ada abu] at he
       exact .inl ⟨by omega,h2,he⟩
     · rw[List.getElem?_append_right (by simp;omega),List.getElem?_drop] at he
       refine .inr ⟨.inr abu,?_⟩;rw[← he]
       congr 1
       simp;omega
 have hmem:∀ e∈es.take off++ys++es.drop (off+ys.length),e∈es∨e∈ys:=by
   intro e he;simp only[acz] at he;rcases he with(he|he)|he
   · exact .inl (ade he)
   · exact .inr he
   · exact .inl (adc he)
 refine⟨A.pos,fun j hj=> ?_,fun e he=> ?_,fun e he=> ?_,fun i e he j c hj=> ?_⟩
 · obtain⟨⟨u,hu⟩,hf⟩:=A.room j hj
   exact⟨ew b news _ w _ hu,by rw[World.frozen?_setCells];exact hf⟩
 · rcases hmem e he with h|h
   · exact A.wid e h
   · exact hz e h
 · rcases hmem e he with h|h
   · exact A.cel e h
   · obtain⟨i,hi⟩:=acx h
     intro c hc;obtain⟨j,hj⟩:=acx hc;exact(hs i e hi j c hj).1
 · rcases hget i e he with⟨h1,h2,h3⟩|⟨h1,h2⟩
   · obtain⟨_,v,q1,q2,q3⟩:=hs _ e h3 j c hj
     refine⟨v,?_,q2.mono hmono⟩;have hm:(i-off)*z+j<news.length:=(ab1.1 q1).1;have:=World.cell?_setCells_in b news (o+off*z) w (fun m hm'=>by
       obtain⟨⟨u,hu⟩,_⟩:=A.room (off*z+m) abu;rw[show o+off*z+m=o+(off*z+m) by omega]
       rw[hu];rfl) _ hm
     have hi:i=off+(i-off):=abu;have e1:o+i*z+j=o+off*z+((i-off)*z+j):=by
       conv=>lhs;rw[hi,ac6]
       omega
     rw[show ad3 b (o+i*z+j)=⟨b,o+off*z+((i-off)*z+j),none⟩ by rw[e1],this,← q1,ab0 hm]
   · obtain⟨v,q1,q2⟩:=A.els i e h2 j c hj
     have hjz:j<z:=by rw[← A.wid e (List.mem_of_getElem? h2)];exact(ab1.1 hj).1
     refine⟨v,bp q1 (fun _=> ?_),q2.mono hmono⟩
     rcases h1 with h1|h1
     · have:=vw h1 hjz
       exact .inl abu
     · have:(off+ys.length)*z≤i*z:=ac0 z h1
       rw[ac6] at this;exact .inr abu
theorem a97 (R:Rel cfg x N s a w) {o:Oper} {c:Call} (ho:o.op= .call c) (hb:c.callee= .builtin .copy) {k:Nat} (hd:o.dst=some k) (hk:k<N) {X Y:Operand} (hargs:c.args.toList=[X,Y]) {t u e:TypeId}
  (htys:c.argTypes.toList=[t,u]) (ht:P.underlying t=some (.slice e)) {z:Nat} (hz:BO P e=some z) {l0:Loc} {es:List D} (h0:s l0=some (.own false z es)) {b o0 L C of cap off n:Nat} (CQ:Aa x a w l0=some (.slice (some (ad3 b o0)) L C))
  (how:x.ow b=some (.at l0)) (hA:Arr (AE x) w b o0 C z es) (hL:es.length=L) (hC:L≤C) (hof:n=0∨of=o0+off*z) (hn:off+n≤es.length) (hX:a.eval X= .slice (some (ad3 b of)) n cap) {q:AB} (hY:Ah Y=some q) {yv:V} (hy:val cfg s q=some yv)
  {ys:List D} (hc:cont s yv=some ys) (hyz:B5 z ys=true):
  Az P cfg x N dep (AK s ((l0,.own false z (es.take off++ys.take n++es.drop (off+min n ys.length)))::AG o.dst (.d (.int .i64 (min n ys.length:Nat))))) a w o:=by
 obtain⟨news,S,hs,ad,cp,hYe,hnil,Ag⟩:=zw (P:=P) R hY hy hc hyz;have hci:∃ i,c.args= #[X,Y]∧c.argTypes= #[t,u]∧i=0:=⟨0,by rw[← hargs],by rw[← htys],rfl⟩
 obtain⟨_,hA1,hA2,_⟩:=hci;have hYL:=jn hyz;have hcs:(Builtin.firstCells z (min ys.length n) (a.eval Y)).run P w= .ok (news.take (min ys.length n*z)).toArray w:=by
  rw[hYe];cases ad with
  | none=>
    have:=hnil rfl;subst this;have:news=[]:=acw (by simpa using S.num)
    subst this;rw[run_firstCells_none];simp
  | some a0=>
    refine run_firstCells_some (P:=P) w z _ a0 _ cp _ ?_ (fun m v hm=>Ag a0 rfl m v ?_)
    · rw[adp,S.num]
      have:min ys.length n*z≤ys.length*z:=ac0 z (Nat.min_le_left _ _);omega
    · rw[List.getElem?_take] at hm
      split at hm
      · exact hm
      · cases hm
 have hlenY:(Builtin.lenOf (a.eval Y)).run P w= .ok ys.length w:=S.len w;have hnl:(news.take (min ys.length n*z)).length=min ys.length n*z:=by
  rw[adp,S.num];have:min ys.length n*z≤ys.length*z:=ac0 z (Nat.min_le_left _ _);omega
 have hyt:(ys.take n).length=min ys.length n:=by simp[Nat.min_comm]
 have hle:(off+min ys.length n)*z≤C*z:=ac0 z abu;rw[ac6] at hle;have hof':min ys.length n*z≠0→of=o0+off*z:=by
  intro h;rcases hof with h1|h1
  · subst h1;simp at h
  · exact h1
 have AW:(execOp a.eval o).run P w= .ok (.value (goInt ((min ys.length n:Nat):Int))) (w.setCells b of (news.take (min ys.length n*z))):=by
  refine cx ho hb ?_;rw[hA1,hA2];simp only[builtin,List.map_toArray,List.map_cons,List.map_nil,Sem.run_bind,hX];rw[bdf ht hz hlenY hcs (fun j hj=> ?_) (fun j hj=> ?_) (fun v hv=>S.one v (ade hv))]
  · rfl
  · rw[hnl] at hj
    obtain⟨⟨u,hu⟩,_⟩:=hA.room (off*z+j) abu;rw[hof' abu,show o0+off*z+j=o0+(off*z+j) by omega,hu]
    rfl
  · rw[hnl] at hj
    obtain⟨_,hf⟩:=hA.room (off*z+j) abu;rw[hof' abu,show o0+off*z+j=o0+(off*z+j) by omega]
    exact hf
 have hsame:w.setCells b of (news.take (min ys.length n*z))=w.setCells b (o0+off*z) (news.take (min ys.length n*z)):=by
  by_cases h:min ys.length n*z=0
  · rw[h];simp[World.setCells]
  · rw[hof' h]
 rw[hsame] at AW;have hA':=hA.over (off:=off) (ys:=ys.take n) (by rw[how];simp) abu (by rw[hyt];omega) (by rw[hyt];exact hnl) (fun e he=>hYL e (ade he)) (fun i e he j c hj=>by
  rw[List.getElem?_take] at he;split at he
  · obtain⟨h1,v,h2,h3⟩:=hs i e he j c hj
    refine⟨h1,v,?_,h3⟩;have hjz:j<z:=by rw[← hYL e (List.mem_of_getElem? he)];exact(ab1.1 hj).1
    have hi:i<min ys.length n:=by have:=(ab1.1 he).1;omega
    have:=vw hi hjz;rw[List.getElem?_take,if_pos this];exact h2
  · cases he)
 rw[hyt] at hA';have hw:=bw w b (o0+off*z) (news.take (min ys.length n*z));have R1:=R.write h0 CQ how hw hA' (by simp;omega) hL hC
 have hcomm:min n ys.length=min ys.length n:=Nat.min_comm _ _;rw[hcomm];refine⟨goInt ((min ys.length n:Nat):Int),_,x,.inl AW,?_,Fr.write how hw⟩;rw[hd];exact R1.put hk rfl (l:=none) (.d _ _ _ (by rw[show goInt ((min ys.length n:Nat):Int)= .int .i64 ((min ys.length n:Nat):Int) from rfl];exact .int _ _))
theorem Sz (R:Rel cfg x N s a w) {o:Oper} {c:Call} (ho:o.op= .call c) (hb:c.callee= .builtin .copy) {k:Nat} (hd:o.dst=some k) (hk:k<N) {X Y:Operand} (hargs:c.args.toList=[X,Y]) {t u e:TypeId}
   (htys:c.argTypes.toList=[t,u]) (ht:P.underlying t=some (.slice e)) {z:Nat} (hz:BO P e=some z) {p q:AB} (hX:Ah X=some p) (hY:Ah Y=some q) {v yv:V} (hx:val cfg s p=some v) (hy:val cfg s q=some yv)
   {ys:List D} (hc:cont s yv=some ys) {r:List (Loc×V)} (hr:nx s o.dst z p v ys=some r):Az P cfg x N dep (AK s r) a w o:=by
 unfold nx at hr;split at hr
 · rename_i hyz
   obtain⟨l0,B7,hl0⟩:=bb R hX hx;simp only at hr;split at hr
   · rename_i j z' es
     split at hr
     · rename_i z2 es2 hs0
       split at hr
       · rename_i hq
         obtain⟨rfl,hq2⟩:=hq;cases hr;obtain⟨hl1,rfl⟩:=hl0 j rfl;have he:s (.slot j)=some (.own false z' es):=hx;rw[he] at hs0;cases hs0;obtain⟨b,o',cap,q1,q2,q3,q4⟩:=R.Bi he;exact a97 R ho hb hd hk hargs htys ht hz he q1 q2 q4 rfl q3 (of:=o') (off:=0) (.inr abw) hq2 (by simpa[Aa,Act.eval] using q1) hY hy hc hyz
       · cases hr
     · cases hr
   · rename_i l off n
     split at hr
     · rename_i z2 es2 hs0
       split at hr
       · rename_i hq
         obtain⟨rfl,hq2⟩:=hq;cases hr;obtain⟨b,o',cap,q1,q2,q3,q4⟩:=R.Bi hs0;generalize hva:a.eval X=vx at B7;cases B7 with
         | bor _ _ _ _ b2 o2 cap2 Ad h=>
          obtain⟨o3,L,C,g1,g2,g3,g4⟩:=h _ _ hs0;rw[g1] at q1;cases q1;exact a97 R ho hb hd hk hargs htys ht hz hs0 g1 q2 q4 rfl q3 (off:=off) (by rcases g3 with g3|g3<;>omega) hq2 hva hY hy hc hyz
       · cases hr
     · cases hr
   · cases hr
 · cases hr
theorem jm:∀ {es:List D} {b:List UInt8},b7 es=some b→∃ ns:List Int,es=ns.map (D.int .u8)∧b=ns.map fun n=>UInt8.ofNat n.toNat
 | [],b,h=>by cases h;exact⟨[],rfl,rfl⟩
 | e::es,b,h=>by
  unfold b7 at h;split at h
  · rename_i c bs h1 h2
    cases h;obtain⟨ns,rfl,rfl⟩:=jm h2;unfold D.byte? at h1;split at h1
    · rename_i n
      cases h1;exact⟨n::ns,rfl,rfl⟩
    · cases h1
  · cases h
theorem kf:∀ (ns:List Int) (r:ByteArray),ns.foldl (fun r n=>r.push (UInt8.ofNat n.toNat)) r=⟨r.data++(ns.map fun n=>UInt8.ofNat n.toNat).toArray⟩
 | [],r=>by simp
 | n::ns,r=>by
  rw[List.foldl_cons,kf ns];simp[ByteArray.push]
theorem XW {F:Nat→Prop} (b:UInt8):Rd F w (.int .u8 (b.toNat:Int)) (AD b):= .int _ _
theorem ii {o:Oper} {sT dT:TypeId} {X:Operand} (ho:o.op= .convert sT dT X) {v:Value} {w':World} (h:(convert sT dT (a.eval X)).run P w= .ok v w'):(execOp a.eval o).run P w= .ok (.value v) w':=by
 simp only[execOp,ho,Sem.run_bind,h,Result.andThen_ok,Sem.run_pure]
theorem aqq {w:World} {b:Nat} (hn:DQ w b) {c:Array Value} {e:TypeId} {fr:Nat×Nat} (hb:w.heap[b]? =some (.cells c e fr)):BR b w (w.freeze ⟨b,c.size,none⟩ 1)∧∀ b' o,(w.freeze ⟨b,c.size,none⟩ 1).cell? (ad3 b' o)=w.cell? (ad3 b' o):=by
 obtain⟨lo,hi⟩:=fr;have hnf:=hn c e lo hi hb;have hheap:∀ b',(w.freeze ⟨b,c.size,none⟩ 1).heap[b']? =if b=b' then some (.cells c e (if lo==hi then(c.size,c.size+1) else(min lo c.size,max hi (c.size+1)))) else w.heap[b']? :=fun b'=>by
   unfold World.freeze;rw[if_neg abx];simp only[Array.getElem?_modify];split
   · rename_i h;subst h;rw[hb];rfl
   · rfl
 have Ag:∀ b' o,(w.freeze ⟨b,c.size,none⟩ 1).cell? (ad3 b' o)=w.cell? (ad3 b' o):=fun b' o=>by
   unfold World.cell?;rw[hheap];by_cases h:b=b'
   · subst h;rw[if_pos rfl,hb]
   · rw[if_neg h]
 have hnew:DQ (w.freeze ⟨b,c.size,none⟩ 1) b:=fun c' e' p q h1 h2=>by
   rw[hheap,if_pos rfl] at h1;by_cases he:lo=hi
   · subst he
     simp only[beq_self_eq_true,if_true,Option.some.injEq,Obj.cells.injEq,Prod.mk.injEq] at h1;obtain⟨rfl,_,rfl,_⟩:=h1;exact ab5 _
   · have hl:=hnf he
     rw[if_neg (by simpa using he)] at h1
     simp only[Option.some.injEq,Obj.cells.injEq,Prod.mk.injEq] at h1;obtain⟨rfl,_,rfl,_⟩:=h1;omega
 have hunf:∀ {w1:World} {c1 e1 f1},w1.heap[b]? =some (.cells c1 e1 f1)→DQ w1 b→∀ o u,w1.cell? (ad3 b o)=some u→w1.frozen? (ad3 b o)=false:=by
   intro w1 c1 e1 f1 h1 h2 o u h3;obtain⟨p,q⟩:=f1;have h4:=h2 _ _ _ _ h1;unfold World.cell? at h3;rw[h1] at h3;have h5:c1[o]? =some u:=h3;have h6:=(act.1 h5).1;unfold World.frozen?;rw[h1];simp only[ac5,ab3];by_cases he:p=q
   · omega
   · have:=h4 he;omega
 refine⟨⟨?_,fun b' h=>by rw[hheap,if_neg (Ne.symm h)],fun o ⟨u,hu⟩=> ?_,fun o u h=>⟨u,by rw[Ag];exact h⟩,?_,fun _=>hnew⟩,Ag⟩
 · unfold World.freeze
   rw[if_neg abx];simp
 · rw[hunf hb hn o u hu]
   exact hunf (w1:=w.freeze ⟨b,c.size,none⟩ 1) (by rw[hheap,if_pos rfl]) hnew o u (by rw[Ag];exact hu)
 · unfold World.freeze
   rw[if_neg abx];exact⟨rfl,rfl,rfl⟩
theorem XI (R:Rel cfg x N s a w) {o:Oper} {t e:TypeId} {j:Nat} (ho:o.op= .convert t t (.tmp j)) {k:Nat} (hd:o.dst=some k) (hk:k<N) (ht:P.underlying t=some (.slice e)) (he:P.underlying e=some (.int .u8))
   {nw:Bool} {z:Nat} {es:List D} (hs:s (.slot j)=some (.own nw z es)) (own:Bool):
   Az P cfg x N dep (AK s (AG o.dst (if own then .own true z es else .d (.sl es))++[(.slot j,.AM)])) a w o:=by
 obtain⟨b,of,cap,h1,how,Ad,A⟩:=R.Bi hs;have hv:a.eval (.tmp j)= .slice (some (ad3 b of)) es.length cap:=by simpa[Aa,Act.eval] using h1
 have hmark:∃ w',(markStringish (ad3 b of)).run P w= .ok () w'∧BR b w w'∧∀ b' o,w'.cell? (ad3 b' o)=w.cell? (ad3 b' o):=by
   unfold markStringish;cases hsh:w.shape? b with
   | none=>
     refine⟨w,by simp[hsh],⟨rfl,fun _ _=>rfl,fun _ _=>rfl,fun _ u h=>⟨u,h⟩,.refl _,fun h=>h⟩,fun _ _=>rfl⟩
   | some p=>
     obtain⟨et,n⟩:=p;have hsh':=hsh;unfold World.shape? at hsh';split at hsh'
     · rename_i c el fr hb
       cases hsh';obtain⟨g1,g2⟩:=aqq (R.Bo b (by rw[how];exact .inr ⟨_,rfl⟩)) hb
       exact⟨_,by simp[hsh],g1,g2⟩
     · cases hsh'
 obtain⟨w',hr,hw,Ag⟩:=hmark;have AW:(execOp a.eval o).run P w= .ok (.value (.slice (some (ad3 b of)) es.length cap)) w':=by
   refine ii ho ?_;rw[hv];simp only[convert,Sem.run_bind,run_underlying ht,run_underlying he,Result.andThen_ok,beq_self_eq_true,hr,Sem.run_pure]
 have A':Arr (AE x) w' b of cap z es:=A.mono (fun b o u h1 h2=>⟨h1,by rw[Ag];exact h2⟩) (fun o u h=>by rw[Ag];exact h) (fun o u h1 h2=>by rw[hw.Gb o ⟨u,h1⟩];exact h2)
 have R1:Rel cfg x N s a w':=(R.write hs h1 how hw A' rfl rfl Ad).congr (fun l=>by
   rw[a8];split
   · rename_i e;rw[e,hs]
   · rfl)
 cases own
 · obtain⟨b2,how2,_,R2⟩:=R1.release hs
   obtain⟨u,hu,B7⟩:=R2.Bl (.slot j) (.d (.sl es)) (by rw[a8,if_pos rfl])
   have hu':u= .slice (some (ad3 b of)) es.length cap:=by
     have h1':Aa (x.AU b2 none) a w' (.slot j)=some (.slice (some (ad3 b of)) es.length cap):=h1;rw[h1'] at hu;exact(Option.some.inj hu).symm
   subst hu';have R3:Rel cfg (x.AU b2 none) N (AK s [(.slot j,.AM)]) a w':=(R2.forget (l0:= .slot j) (by simp[a8])).congr (fun l=>by
     simp only[a8];split<;>rfl)
   refine⟨_,w',x.AU b2 none,.inl AW,?_,(Fr.write how hw).trans (Fr.AU how2 _)⟩;rw[hd];exact(R3.put hk rfl (l:=none) (.d _ _ _ B7.An)).BC
 · refine⟨_,w',x.AU b (some (.at (.slot k))),.inl AW,?_,(Fr.write how hw).trans (Fr.AU how _)⟩
   rw[hd];exact R1.EY hk hs how A' rfl Ad
theorem W9 (R:Rel cfg x N s a w) {o:Oper} {sT dT e:TypeId} {X:Operand} (ho:o.op= .convert sT dT X) {k:Nat} (hd:o.dst=some k) (hk:k<N) {p:AB} (hX:Ah X=some p) (hs:P.underlying sT=some .string)
   (ht:P.underlying dT=some (.slice e)) (he:P.underlying e=some (.int .u8)) {b:List UInt8} (hy:val cfg s p=some (.d (.str b))) (own:Bool):
   Az P cfg x N dep (AK s (AG o.dst (if own then .own true 1 (b.map AD) else .d (.sl (b.map AD))))) a w o:=by
 obtain⟨l0,hr,_⟩:=bb R hX hy;have hv:=hr.An.DB;have AW:=run_bytes_of_string (P:=P) w sT dT e ⟨b.toArray⟩ hs ht he;rw[← hv] at AW;have hexe:=ii (a:=a) ho AW;have hsz:(ByteArray.mk b.toArray).size=b.length:=by simp[ByteArray.size]
 rw[hsz] at hexe;have Ad:b.length≤grownCap w b.length 0 e:=j8 w _ _ e;generalize grownCap w b.length 0 e=cap at hexe Ad;have hrow:(bytesRow ⟨b.toArray⟩ cap).size=cap:=by simp[bytesRow,hsz];omega
 have hat:∀ (j:Nat) c,(b.map AD)[j]? =some c→∃ v,(bytesRow ⟨b.toArray⟩ cap)[j]? =some v∧∀ F w',Rd F w' v c:=by
   intro j c hc;rw[acf] at hc;cases hb:b[j]? with
   |none=>rw[hb] at hc;cases hc
   | some y=>
     rw[hb] at hc;cases hc;obtain⟨hlt,hbe⟩:=ab1.1 hb;refine⟨_,bytesRow_at ⟨b.toArray⟩ cap j (by simpa using hlt),fun F w'=> ?_⟩
     simp only[List.getElem_toArray,hbe];exact XW y
 generalize bytesRow ⟨b.toArray⟩ cap=row at hexe hrow hat;have Ag:∀ j,(w.drew.alloc (.cells row e (row.size,row.size+1))).cell? (ad3 w.heap.size j)=row[j]? :=fun j=>World.cell?_alloc_mark w.drew row e _ j
 have hfroz:∀ j,j<cap→(w.drew.alloc (.cells row e (row.size,row.size+1))).frozen? (ad3 w.heap.size j)=false:=fun j hj=>by
   have:=World.frozen?_alloc_mark w.drew row e row.size (row.size+1) j;refine Eq.trans this ?_;rw[hrow];simp;omega
 have hlen:(b.map AD).length=b.length:=by simp
 have hwid:∀ e∈b.map AD,e.cells.length=1∧∀ c∈e.cells,c.AP=true:=fun e he=>by
   obtain⟨y,_,rfl⟩:=adl.1 he;exact⟨rfl,fun c hc=>by simp[AD,D.cells] at hc;subst hc;rfl⟩
 have hone:∀ (i:Nat) e,(b.map AD)[i]? =some e→∀ (j:Nat) c,e.cells[j]? =some c→j=0∧c=e:=fun i e he j c hc=>by
   obtain⟨y,_,rfl⟩:=adl.1 (List.mem_of_getElem? he);cases j with
   |zero=>simp[AD,D.cells] at hc;exact⟨rfl,hc.symm⟩
   |succ j=>simp[AD,D.cells] at hc
 cases own
 · refine⟨_,_,x.AU w.heap.size none,.inl hexe,?_,Fr.trans Fr.drew (Fr.alloc (w:=w.drew) (.cells row e (row.size,row.size+1)) _)⟩
   rw[hd];refine((R.drew).alloc (.cells row e (row.size,row.size+1)) none).put hk rfl (l:=none) (.d _ _ _ ?_);have:=Rd.Hf (F:=AE (x.AU w.heap.size none)) (w:=w.drew.alloc (.cells row e (row.size,row.size+1))) (b:=w.heap.size) (o:=0) (cap:=cap) (z:=1) (es:=b.map AD) abu (fun e he=>(hwid e he).1) (fun i e he=> ?_)
   · rw[hlen] at this;exact this
   · refine⟨(hwid e (List.mem_of_getElem? he)).2,fun j c hc=> ?_⟩
     obtain⟨rfl,rfl⟩:=hone i e he j c hc;obtain⟨v,g1,g2⟩:=hat i c he;refine⟨v,by simp[AE,Cx.AU],?_,g2 _ _⟩
     rw[show ad3 w.heap.size (0+i*1+0)=ad3 w.heap.size i by simp[ad3],Ag]
     exact g1
 · refine⟨_,_,x.AU w.heap.size (some (.at (.slot k))),.inl hexe,?_,Fr.trans Fr.drew (Fr.alloc (w:=w.drew) (.cells row e (row.size,row.size+1)) _)⟩
   rw[hd];refine((R.drew).alloc (.cells row e (row.size,row.size+1)) (some (.at (.slot k)))).putAt hk abw ?_;refine .own _ _ _ _ _ _ _ _ ?_ hlen Ad ⟨by decide,fun j hj=>⟨?_,?_⟩,fun e he=>(hwid e he).1,fun e he=>(hwid e he).2,fun i e he j c hc=> ?_⟩
   · show(x.AU w.heap.size _).ow w.heap.size=_
     simp[Cx.AU]
   · have hlt:j<row.size:=abu
     exact⟨row[j],by rw[Nat.zero_add];exact(Ag j).trans (acm hlt)⟩
   · rw[Nat.zero_add];exact hfroz j abu
   · obtain⟨rfl,rfl⟩:=hone i e he j c hc
     obtain⟨v,g1,g2⟩:=hat i c he;refine⟨v,?_,g2 _ _⟩;refine Eq.trans ?_ g1;refine Eq.trans ?_ (Ag i);simp
theorem XM (R:Rel cfg x N s a w) {o:Oper} {sT dT e:TypeId} {X:Operand} (ho:o.op= .convert sT dT X) {k:Nat} (hd:o.dst=some k) (hk:k<N) {p:AB} (hX:Ah X=some p) (hs:P.underlying sT=some (.slice e))
  (ht:P.underlying dT=some .string) (he:P.underlying e=some (.int .u8)) {y:V} (hy:val cfg s p=some y) {es:List D} (hc:cont s y=some es) {b:List UInt8} (hb:b7 es=some b):
  Az P cfg x N dep (AK s (AG o.dst (.d (.str b)))) a w o:=by
 obtain⟨ns,rfl,rfl⟩:=jm hb;have hz:∀ ns:List Int,B5 1 (ns.map (D.int .u8))=true:=by
  intro ns
  induction ns with
  |nil=>rfl
  |cons n r ih=>simpa[B5,D.cells] using ih
 obtain⟨news,S,hs2,ad,cp,hYe,hnil,Ag⟩:=zw (P:=P) R hX hy hc (hz ns);have hnews:news=ns.map (Value.int .u8):=by
  refine List.ext_getElem? (fun j=> ?_)
  rw[acf];cases hj:ns[j]? with
  | none=>
   have hlt:=S.num;rw[List.getElem?_eq_none_iff] at hj;simp only[aby,Nat.mul_one] at hlt;rw[List.getElem?_eq_none_iff.2 abu];rfl
  | some n=>
   obtain⟨_,v,g1,g2,_⟩:=hs2 j (.int .u8 n) (by rw[acf,hj];rfl) 0 _ rfl
   have:=g2.Ar;subst this;simpa using g1
 have AW:(convert sT dT (a.eval X)).run P w= .ok (.string ⟨(ns.map fun n=>UInt8.ofNat n.toNat).toArray⟩) w:=by
  rw[hYe,run_convert_bytes_string w sT dT e ad _ cp hs he ht];cases ad with
  | none=>
   have:=hnil rfl;simp only[List.map_eq_nil_iff] at this;subst this;rfl
  | some a0=>
   have hl:=run_loadCells_list (P:=P) w a0 news (fun m v hm=>Ag a0 rfl m v hm)
   rw[hnews] at hl;simp only[aby] at hl;rw[aby,run_bytesToString w a0 _ cp ns hl,kf];simp[ByteArray.empty,ByteArray.emptyWithCapacity];rfl
 exact a6 R hd hk (ii ho AW) (.str _)
end
end Go.Ev
namespace Go.Ev
open Go
section
variable {P:Program} {cfg:Cfg} {x:Cx} {N dep:Nat} {s:Get} {a:Act} {w:World}
theorem uf {v:Value} {d:D} (h:Fl v=some d):d.storable=true:=by
 unfold Fl at h;split at h<;>cases h<;>rfl
theorem xd {v:Value} {d:D} (h:Gv v=some d):d.storable=true:=by
 unfold Gv at h;split at h
 · simp only[abz] at h
   obtain⟨cs,_,rfl⟩:=h;rfl
 · exact uf h
theorem ly {t:TypeId} {d:D} (h:Cj P t=some d):d.storable=true:=by
 simp only[Cj,ab7] at h;obtain⟨v,_,h⟩:=h;exact xd h
theorem str_src (R:Rel cfg x N s a w) {X:Operand} {p:AB} (hX:Ah X=some p) {b:List UInt8} (hy:val cfg s p=some (.d (.str b))):
   ∃ news,Src P w 1 (a.eval X) (b.map AD).length news∧(∀ (i:Nat) e,(b.map AD)[i]? =some e→∀ (j:Nat) c,e.cells[j]? =some c→c.AP=true∧∃ v,news[i*1+j]? =some v∧Rd (AE x) w v c∧v.oneCell'=true):=by
 obtain⟨l,hr,_⟩:=bb R hX hy;have e:=hr.An.DB;rw[e];refine⟨b.map fun c=>Value.int .u8 c.toNat,⟨fun w'=>by simp[Builtin.lenOf,ByteArray.size],fun w' _=> ?_,by simp,fun v hv=> ?_⟩,fun i e he j c hc=> ?_⟩
 · simp[Builtin.firstCells]
 · obtain⟨c,_,rfl⟩:=adl.1 hv
   rfl
 · rw[acf] at he
   cases hb:b[i]? with
   |none=>rw[hb] at he;cases he
   | some y=>
    rw[hb] at he;cases he;cases j with
    |succ j=>simp[AD,D.cells] at hc
    | zero=>
     simp[AD,D.cells] at hc;subst hc;exact⟨rfl,.int .u8 y.toNat,by simp[hb],.int _ _,rfl⟩
theorem mk1 {c:Array Operand} {X:Operand} {p:AB} (h:BM c.toList=some [p]):∃ X,c.toList=[X]∧Ah X=some p:=by
 cases h1:c.toList with
 |nil=>rw[h1] at h;cases h
 | cons X r=>
  rw[h1] at h;unfold BM at h;split at h
  · rename_i a b h2 h3
    cases h;cases r with
    |nil=>exact⟨X,rfl,h2⟩
    | cons Y r=>
     unfold BM at h3;split at h3<;>cases h3
  · cases h
theorem mk2 {c:Array Operand} {p q:AB} (h:BM c.toList=some [p,q]):∃ X Y,c.toList=[X,Y]∧Ah X=some p∧Ah Y=some q:=by
 cases h1:c.toList with
 |nil=>rw[h1] at h;cases h
 | cons X r=>
  rw[h1] at h;unfold BM at h;split at h
  · rename_i a b h2 h3
    cases h;cases r with
    |nil=>cases h3
    | cons Y r=>
     unfold BM at h3;split at h3
     · rename_i a b h4 h5
       cases h3;cases r with
       |nil=>exact⟨X,Y,rfl,h2,h4⟩
       | cons Z r=>
        unfold BM at h5;split at h5<;>cases h5
     · cases h3
  · cases h
theorem XK (R:Rel cfg x N s a w) {o:Oper} {c:Call} (ho:o.op= .call c) {b:Builtin} (hb:c.callee= .builtin b) {args:List AB} (hargs:BM c.args.toList=some args) {io:IOp}
   (AX:db P b args c.argTypes.toList=some io) {k:Nat} (hd:o.dst=some k) (hk:k<N) {u:List (Loc×V)} (hu:Al cfg dep s o.dst io=some u):Az P cfg x N dep (AK s u) a w o:=by
 unfold db at AX;split at AX
 ·
   rename_i p t htys;obtain⟨X,hX1,hX⟩:=mk1 (X:= .tmp 0) hargs;split at AX
   · rename_i ht
     cases AX;simp only[Al] at hu;split at hu
     · rename_i b hy
       cases hu;exact bc2 R ho hb hX1 htys hd hk hX (.inl ht) hy rfl ⟨fun _=>ht,fun _=>⟨_,rfl⟩⟩
     · cases hu
   · rename_i e ht
     cases AX;simp only[Al] at hu;split at hu
     · rename_i v hy
       split at hu<;>cases hu
       all_goals exact bc2 R ho hb hX1 htys hd hk hX (.inr ⟨e,ht⟩) hy rfl ⟨(fun⟨_,h⟩=>by cases h),(fun h=>by rw[ht] at h;cases h)⟩
     · cases hu
   · cases AX
 · cases AX
   simp only[Al,ab7,abz] at hu;obtain⟨l,hl,r,hr,rfl⟩:=hu;exact u7 (mx:=false) R ho hb hd hk hargs hl hr
 · cases AX
   simp only[Al,ab7,abz] at hu;obtain⟨l,hl,r,hr,rfl⟩:=hu;exact u7 (mx:=true) R ho hb hd hk hargs hl hr
 ·
   rename_i p q t u' htys;obtain⟨X,Y,hXY,hX,hY⟩:=mk2 hargs;split at AX
   · rename_i e e' ht hu'
     split at AX
     · rename_i i zd hi hzd
       split at AX
       · rename_i hq
         obtain⟨rfl,hz0,hb0,hzl⟩:=hq;cases AX;simp only[Al] at hu;split at hu
         · rename_i v ys hv hys
           simp only[ab7] at hys;obtain⟨yv,hyv,hcont⟩:=hys;have hz:B5 i.size ys=true:=by
            unfold fh at hu;split at hu
            · rename_i h;simp only[aca] at h;exact h.1
            · cases hu
           obtain⟨news,S,hs,_⟩:=zw (P:=P) R hY hyv hcont hz;rw[hd] at hu;exact XO R ho hb hd hk hXY htys ht hu' abw hi hzd hzl (ly hzd) hb0 hz0 hX hv S hs hu
         · cases hu
       · cases AX
     · cases AX
   · cases AX
 ·
   rename_i p q t u' htys;obtain⟨X,Y,hXY,hX,hY⟩:=mk2 hargs;split at AX
   · rename_i e e' ht hu'
     split at AX
     · rename_i z z' hz hz'
       split at AX
       · rename_i hq
         cases AX;simp only[Al] at hu;split at hu
         · rename_i v ys hv hys
           simp only[ab7] at hys;obtain⟨yv,hyv,hcont⟩:=hys;exact Sz R ho hb hd hk hXY htys ht hz hX hY hv hyv hcont hu
         · cases hu
       · cases AX
     · cases AX
   · cases AX
 · cases AX
end
end Go.Ev
namespace Go.Ev
open Go
section
variable {P:Program} {cfg:Cfg} {x:Cx} {N dep:Nat} {s:Get} {a:Act} {w:World}
theorem Su (hI:aaq P cfg) (R:Rel cfg x N s a w) {o:Oper} {own:Bool} {io:IOp} (AX:cOp P own o.op=some io) (hk:∀ k,o.dst=some k→k<N) (hds:o.dst=none→io.Dz=true)
  {u:List (Loc×V)} (hu:Al cfg dep s o.dst io=some u):Az P cfg x N dep (AK s u) a w o:=by
 have dst1:io.Dz=false→∃ k,o.dst=some k∧k<N:=fun h=>by
  cases hd:o.dst with
  |none=>rw[hds hd] at h;cases h
  |some k=>exact⟨k,rfl,hk k hd⟩
 cases ho:o.op with
 | move X=>
  rw[ho] at AX;simp only[cOp,abz] at AX;obtain⟨ix,hX,rfl⟩:=AX;obtain⟨k,hd,hkN⟩:=dst1 rfl;simp only[Al,ab7] at hu;obtain⟨y,hy,hu⟩:=hu;rw[hd] at hu;exact cA R (.inl ho) hd hkN hX hy hu
 | assign X=>
  rw[ho] at AX;simp only[cOp,abz] at AX;obtain⟨ix,hX,rfl⟩:=AX;obtain⟨k,hd,hkN⟩:=dst1 rfl;simp only[Al,ab7] at hu;obtain⟨y,hy,hu⟩:=hu;rw[hd] at hu;exact XN R ho hd hkN hX hy hu
 | pick C A B=>
  rw[ho] at AX;simp only[cOp] at AX;split at AX
  · rename_i c p q hC hA hB
    cases AX;obtain⟨k,hd,hkN⟩:=dst1 rfl;simp only[Al] at hu;split at hu
    · rename_i t hc
      split at hu
      · rename_i y hy
        cases hu;exact Ss R ho hd hkN hC hA hB hc hy
      · cases hu
    · cases hu
  · cases AX
 | alloc t=>
  rw[ho] at AX;simp only[cOp] at AX;split at AX
  · rename_i z n hz hn
    split at AX
    · rename_i hq
      cases AX;obtain⟨k,hd,hkN⟩:=dst1 rfl;simp only[Al,hd] at hu;split at hu
      · cases hu
      · rename_i hno
        cases hu;simp only[acu,not_or,ack,Option.isSome_eq_false_iff,Option.isNone_iff_eq_none] at hno;exact bda R ho hd hkN hz (by intro e;rw[e] at hq;simp at hq;omega) (ly hz) hno.1
    · cases AX
  · cases AX
 | box t X=>
  rw[ho] at AX;simp only[cOp] at AX;split at AX
  · rename_i p n hX hn
    split at AX
    · cases AX
      obtain⟨k,hd,hkN⟩:=dst1 rfl;simp only[Al,hd] at hu;split at hu
      · rename_i k' y hk' hy
        cases hk';exact XJ R ho hd hkN hX hy hu
      · cases hu
    · cases AX
  · cases AX
 | build t ps=>
  rw[ho] at AX;simp only[cOp] at AX;split at AX
  · rename_i fs zs ht hzd
    split at AX
    · rename_i pl hpl
      simp only[abz] at AX;obtain⟨l,hl,rfl⟩:=AX;obtain⟨k,hd,hkN⟩:=dst1 rfl;simp only[Al,ab7,abz] at hu;obtain⟨ds,hds',cs,hf,rfl⟩:=hu;exact bc9 R ho hd hkN ht hzd hpl hl hds' hf
    · cases AX
  · rename_i n e zs ht hzd
    split at AX
    · rename_i z hz
      simp only[abz] at AX;obtain⟨l,hl,rfl⟩:=AX;obtain⟨k,hd,hkN⟩:=dst1 rfl;simp only[Al,ab7,abz] at hu;obtain⟨ds,hds',cs,hf,rfl⟩:=hu;exact bau R ho hd hkN ht hzd hz hl hds' hf
    · cases AX
  · cases AX
 | buildSlice t n ps=>
  rw[ho] at AX;simp only[cOp] at AX;split at AX
  · rename_i e ht
    split at AX
    · rename_i z zd l hz hzd hl
      split at AX
      · rename_i hq
        cases AX;obtain⟨k,hd,hkN⟩:=dst1 rfl;simp only[Al] at hu;split at hu
        · rename_i u' hvec
          cases hu;unfold H6 at hvec;split at hvec
          · rename_i y0 ys hrefs
            split at hvec
            · rename_i hq2
              obtain⟨rfl,hq3⟩:=hq2;cases hvec;rw[hd];exact W8 R ho hd hkN ht hz hzd hl hq.2.2 hrefs hq3
            · cases hvec
          · cases hvec
        simp only[ab7] at hu;obtain⟨ds,hds',hu⟩:=hu;split at hu
        · rename_i hq2
          simp only[abz] at hu;obtain⟨es,hf,rfl⟩:=hu;rw[hd];have hlit:=XE (dep:=dep) R ho hd hkN ht hz hzd hl hq.1 hq.2.1 hq.2.2 hds' hq2.1 hq2.2.2 hf own;exact hlit
        · cases hu
      · cases AX
    · cases AX
  · cases AX
 | load t A=>
  rw[ho] at AX;simp only[cOp] at AX;split at AX
  · rename_i z p hz hX
    cases AX;obtain⟨k,hd,hkN⟩:=dst1 rfl;simp only[Al,ab7] at hu;obtain⟨y,hy,hu⟩:=hu;rw[hd] at hu;exact Sv R ho hd hkN hX hz hy hu
  · cases AX
 | store t A X=>
  rw[ho] at AX;simp only[cOp] at AX;split at AX
  · rename_i n p q hn hA hX
    cases AX;simp only[Al] at hu;split at hu
    · rename_i ya yx hya hyx
      split at hu
      · cases hu
      · rename_i hnone
        exact bcz R ho (by simpa using hnone) hn hA hX hya hyx hu
    · cases hu
  · cases AX
 | nilCheck X=>
  rw[ho] at AX;simp only[cOp,abz] at AX;obtain⟨ix,hX,rfl⟩:=AX;obtain⟨k,hd,hkN⟩:=dst1 rfl;simp only[Al,ab7] at hu;obtain⟨y,hy,hu⟩:=hu;rw[hd] at hu;exact XB R ho hd hkN hX hy hu
 | binOp op t X Y t'=>
  rw[ho] at AX;simp only[cOp] at AX;have hbin:∀ p q,Ah X=some p→Ah Y=some q→io= .bin op p q→Az P cfg x N dep (AK s u) a w o:=by
    rintro p q hX hY rfl
    obtain⟨k,hd,hkN⟩:=dst1 rfl;simp only[Al] at hu;split at hu
    · rename_i c d hc hdd
      simp only[abz] at hu;obtain⟨r,hr,rfl⟩:=hu;exact XL R ho hd hkN hX hY hc hdd hr
    · cases hu
  have heqn:∀ p q d cls neg,Ah X=some p→Ah Y=some q→P.underlying t=some d→kh d=some cls→(op=if neg then .neq else .eql)→io= .eqn neg cls p q→Az P cfg x N dep (AK s u) a w o:=by
    rintro p q d cls neg hX hY ht hcls Aw rfl
    obtain⟨k,hd,hkN⟩:=dst1 rfl;simp only[Al] at hu;split at hu
    · rename_i c e hc he
      simp only[abz] at hu;obtain⟨r,hr,rfl⟩:=hu;exact XG hI R Aw ho hd hkN hX hY ht hcls hc he hr
    · cases hu
  split at AX
  · rename_i p q k hX hY ht
    cases AX;exact hbin p q hX hY rfl
  · rename_i p q hX hY ht
    cases AX;exact hbin p q hX hY rfl
  · rename_i p el hX hY ht
    have hnil:∀ neg,(op=if neg then .neq else .eql)→io= .isNil neg p→Az P cfg x N dep (AK s u) a w o:=by
      rintro neg Aw rfl
      obtain⟨k,hd,hkN⟩:=dst1 rfl;simp only[Al,ab7,abz] at hu;obtain⟨c,hc,r,hr,rfl⟩:=hu;exact bc3 R Aw ho hd hkN hX hY ht hc hr
    split at AX
    · cases AX;exact hnil false rfl rfl
    · cases AX;exact hnil true rfl rfl
    · cases AX
  · rename_i p ms hX hY ht
    have hnil:∀ neg,(op=if neg then .neq else .eql)→io= .eqn neg .FH p (.c .Be)→Az P cfg x N dep (AK s u) a w o:=by
      rintro neg Aw rfl
      obtain⟨k,hd,hkN⟩:=dst1 rfl;simp only[Al] at hu;split at hu
      · rename_i c e hc he
        simp only[abz] at hu;obtain⟨r,hr,rfl⟩:=hu;cases he;exact bc4 R Aw ho hd hkN hX hY ht hc hr
      · cases hu
    split at AX
    · cases AX;exact hnil false rfl rfl
    · cases AX;exact hnil true rfl rfl
    · cases AX
  · rename_i p q fs hX hY ht
    have hS:∀ ks neg,a9x P t fs=some ks→(op=if neg then .neq else .eql)→io= .eqn neg (.agg ks) p q→Az P cfg x N dep (AK s u) a w o:=by
      rintro ks neg P2 Aw rfl
      obtain⟨k,hd,hkN⟩:=dst1 rfl;simp only[Al] at hu;split at hu
      · rename_i c e hc he
        simp only[abz] at hu;obtain⟨r,hr,rfl⟩:=hu;exact XH R Aw ho hd hkN hX hY ht P2 hc he hr
      · cases hu
    split at AX
    · rename_i ks P2
      cases AX;exact hS ks false P2 rfl rfl
    · rename_i ks P2
      cases AX;exact hS ks true P2 rfl rfl
    · cases AX
  · rename_i p q d _ _ _ _ _ hX hY ht
    split at AX
    · rename_i cls hcls
      cases AX;exact heqn p q d cls false hX hY ht hcls rfl rfl
    · rename_i cls hcls
      cases AX;exact heqn p q d cls true hX hY ht hcls rfl rfl
    · cases AX
  · cases AX
 | unOp op t X=>
  rw[ho] at AX;simp only[cOp,abz] at AX;obtain⟨ix,hX,rfl⟩:=AX;obtain⟨k,hd,hkN⟩:=dst1 rfl;simp only[Al] at hu;split at hu
  · rename_i c hc
    simp only[abz] at hu;obtain⟨r,hr,rfl⟩:=hu;exact bZ R ho hd hkN hX hc hr
  · cases hu
 | convert sT dT X=>
  rw[ho] at AX;simp only[cOp] at AX;split at AX
  · rename_i q' q p ht ht' hX
    cases AX;obtain⟨k,hd,hkN⟩:=dst1 rfl;simp only[Al] at hu;split at hu
    · rename_i k' n hc
      cases hu;exact bc6 R ho hd hkN hX ht ht' hc
    · cases hu
  · rename_i e p ht ht' hX
    split at AX
    · rename_i he
      cases AX;obtain⟨k,hd,hkN⟩:=dst1 rfl;simp only[Al,ab7,abz] at hu;obtain⟨es,⟨y,hy,hc⟩,b,hb,rfl⟩:=hu;exact XM R ho hd hkN hX ht ht' he hy hc hb
    · cases AX
  · rename_i e p ht ht' hX
    split at AX
    · rename_i he hsz
      cases AX;obtain⟨k,hd,hkN⟩:=dst1 rfl;simp only[Al] at hu;split at hu
      · rename_i b hy
        split at hu
        · cases hu
          exact W9 R ho hd hkN hX ht ht' he hy own
        · cases hu
      · cases hu
    · cases AX
  · rename_i e p ht ht' hX
    split at AX
    · rename_i he
      split at AX
      · rename_i Bz
        cases AX;obtain⟨rfl,_⟩:=Bz;obtain⟨k,hd,hkN⟩:=dst1 rfl;simp only[Al] at hu;split at hu
        · rename_i j nw z es hy
          cases hu;have hXj:X= .tmp j:=by
            cases X with
            |tmp t=>cases hX;rfl
            |const v=>simp[Ah] at hX
            |global g=>simp[Ah] at hX
            |func f=>simp[Ah] at hX
          subst hXj;exact XI R ho hd hkN ht' he hy own
        · cases hu
      · cases AX
    · cases AX
  · cases AX
 | makeInterface t X=>
  rw[ho] at AX;simp only[cOp] at AX;split at AX
  · cases AX
  · rename_i d p hni ht hX
    cases AX;obtain⟨k,hd,hkN⟩:=dst1 rfl;simp only[Al] at hu;cases hy:val cfg s p with
    |none=>rw[hy] at hu;cases hu
    | some y=>
      rw[hy] at hu;refine XD R ho hd hkN hX ht (fun ms e=>hni ms e) hy (u:=u) ?_
      cases y with
      |d c=>exact hu
      |Af e off=>cases off<;>exact hu
      |ref d k off=>exact hu
      |_=>cases hu
  · cases AX
 | makeFunc f A B=>
  rw[ho] at AX;cases f with
  | func f=>
    simp only[cOp] at AX;split at AX
    · rename_i ia ib hA hB
      cases AX;obtain⟨k,hd,hkN⟩:=dst1 rfl;simp only[Al] at hu;rw[hd] at hu;split at hu
      · rename_i hx hy
        exact bc1 R ho hd hkN hA hB hx hy hu
      · rename_i xs ys hno hx hy
        exact bc1 R ho hd hkN hA hB hx hy (by
          split
          · exact absurd rfl (hno rfl)
          · exact hu)
      · cases hu
    · cases AX
  |_=>simp[cOp] at AX
 | makeSlice t L C=>
  rw[ho] at AX;simp only[cOp] at AX;split at AX
  · rename_i e ht
    split at AX
    · rename_i i zd l c hi hzd hL hC
      split at AX
      · rename_i hz0
        cases AX;obtain⟨k,hd,hkN⟩:=dst1 rfl;simp only[Al] at hu;split at hu
        · rename_i n m hn hm
          split at hu
          · rename_i hq
            cases hu;exact XC R ho hd hkN ht hi hzd hL hC hz0 hn hm hq
          · cases hu
        · cases hu
      · cases AX
    · cases AX
  · cases AX
 | slice t X lo hi mx=>
  rw[ho] at AX;simp only[cOp] at AX;split at AX
  · rename_i e p ilo ihi imx ht hX hlo hhi hmx
    split at AX
    · rename_i z hz
      split at AX
      · cases AX
        obtain⟨k,hd,hkN⟩:=dst1 rfl;simp only[Al,ab7] at hu;obtain⟨y,hy,hu⟩:=hu;rw[hd] at hu;exact bc0 R ho hd hkN hX hlo hhi hmx ht hz hy hu
      · cases AX
    · cases AX
  · rename_i p ilo ihi ht hX hlo hhi hmx
    cases AX;obtain⟨k,hd,hkN⟩:=dst1 rfl;have hmx0:mx=none:=by
      cases mx with
      |none=>rfl
      |some M=>simp[Ca] at hmx
    subst hmx0;simp only[Al] at hu;split at hu
    · rename_i b hy
      simp only[abz] at hu;obtain⟨⟨l,h⟩,hb,rfl⟩:=hu;exact bas R ho hd hkN hX hlo hhi ht hy hb
    · cases hu
  · cases AX
 | fieldAddr t X f=>
  rw[ho] at AX;simp only[cOp] at AX;split at AX
  · rename_i fs p ht hX
    split at AX
    · rename_i fd hf
      split at AX
      · rename_i n hn
        split at AX
        · rename_i hn0
          cases AX;obtain⟨k,hd,hkN⟩:=dst1 rfl;simp only[Al] at hu;cases hy:val cfg s p with
          |none=>rw[hy] at hu;cases hu
          | some y=>
            rw[hy,hd] at hu;exact bat R ho hd hkN hX ht hf hn hn0 hy hu rfl
        · cases AX
      · cases AX
    · cases AX
  · cases AX
 | field t X f=>
  rw[ho] at AX;simp only[cOp] at AX;split at AX
  · rename_i fs p ht hX
    split at AX
    · rename_i fd hf
      simp only[abz] at AX;obtain⟨z,hz,rfl⟩:=AX;obtain⟨k,hd,hkN⟩:=dst1 rfl;simp only[Al] at hu;split at hu
      · rename_i cs hy
        simp only[abz] at hu;obtain⟨r,hr,rfl⟩:=hu;exact bc5 R ho hd hkN hX ht hf hz hy hr
      · cases hu
    · cases AX
  · cases AX
 | indexAddr t X I=>
  rw[ho] at AX;simp only[cOp] at AX;split at AX
  · rename_i e p q ht hX hI'
    split at AX
    · rename_i z hz
      split at AX
      · cases AX
        obtain⟨k,hd,hkN⟩:=dst1 rfl;simp only[Al] at hu;split at hu
        · rename_i y n hy hn
          rw[hd] at hu;exact Sy R ho hd hkN hX hI' ht hz hy hn hu
        · cases hu
      · cases AX
    · cases AX
  · rename_i n e p q ht hX hI'
    split at AX
    · rename_i z hz
      split at AX
      · cases AX
        obtain⟨k,hd,hkN⟩:=dst1 rfl;simp only[Al] at hu;split at hu
        · rename_i y j hy hj
          split at hu
          · rename_i hb
            rw[hd] at hu;exact Sx R ho hd hkN hX hI' ht hz hu hy hj hb.1 hb.2
          · cases hu
        · cases hu
      · cases AX
    · cases AX
  · cases AX
 | index t X I=>
  rw[ho] at AX;simp only[cOp] at AX;split at AX
  · rename_i p q ht hX hI'
    cases AX;obtain⟨k,hd,hkN⟩:=dst1 rfl;simp only[Al] at hu;split at hu
    · rename_i b j hy hj
      split at hu
      · cases hu
      · rename_i h0
        simp only[abz] at hu;obtain⟨c,hc,rfl⟩:=hu;exact Sw R ho hd hkN hX hI' ht hy hj h0 hc
    · cases hu
  · cases AX
 | extract X i=>
  rw[ho] at AX;simp only[cOp,abz] at AX;obtain⟨ix,hX,rfl⟩:=AX;obtain⟨k,hd,hkN⟩:=dst1 rfl;simp only[Al] at hu;split at hu
  · rename_i ds hc
    simp only[abz] at hu;obtain⟨r,hr,rfl⟩:=hu;exact XF R ho hd hkN hX hc hr
  · cases hu
 | call c=>
  rw[ho] at AX;simp only[cOp] at AX;split at AX
  · rename_i args hargs
    cases hcal:c.callee with
    | value X=>
      rw[hcal] at AX;have hno:Al cfg dep s o.dst io=none:=by
        cases X with
        |func f=>cases AX;rfl
        | _=>
          simp only[abz] at AX;obtain⟨p,_,rfl⟩:=AX;rfl
      rw[hno] at hu;cases hu
    | invoke r m=>
      rw[hcal] at AX;cases AX
    | builtin b=>
      rw[hcal] at AX;have Aw:db P b args c.argTypes.toList=some io:=AX;have Bz:io.Dz=false:=by
        cases io with
        | store n p q=>
          exfalso;unfold db at Aw
          repeat' split at Aw
          all_goals first|cases Aw;done|simp at Aw
        |_=>rfl
      obtain⟨k,hd,hkN⟩:=dst1 Bz;exact XK R ho hcal hargs Aw hd hkN hu
  · cases AX
 | _=>
  rw[ho] at AX;simp[cOp] at AX
end
end Go.Ev
namespace Go.Ev
open Go
def Fk (P:Program) (f:FuncId) (args:Array Value) (w:World) (R:Value→World→Prop):Prop:=
 (∃ v w',(callFunc f args).run P w= .ok (.value v) w'∧R v w')∨
 ((callFunc f args).run P w= .ok (.enter f args) w∧Calls P f args w fun
  | .returned v,w'=>R v w'
  |_,_=>False)
theorem Fk.mono {P:Program} {f:FuncId} {args:Array Value} {w:World} {R R':Value→World→Prop} (h:Fk P f args w R) (hr:∀ v w',R v w'→R' v w'):Fk P f args w R':=by
 rcases h with⟨v,w',h1,h2⟩|⟨h1,h2⟩
 · exact .inl ⟨v,w',h1,hr _ _ h2⟩
 · refine .inr ⟨h1,h2.mono fun e w' h=> ?_⟩
   cases e with
   |returned v=>exact hr _ _ h
   |panicked c=>exact h
   |outgrown=>exact h
def D8 (P:Program) (cfg:Cfg) (x:Cx) (N dep:Nat) (s':Get) (a:Act) (w:World) (o:Oper):Prop:=
 ∀ (next:Act→World→Prop) (Q:Exit→Act→World→Prop),(∀ v w' x',Rel cfg x' N s' (a.put o.dst v) w'→Fr dep x x' w w'→next (a.put o.dst v) w')→o.wp P a w next Q
abbrev Ee:Act:=⟨#[],[]⟩
abbrev D1 (m:List (Cel×V)):Get:=St.get ⟨[],m⟩
def D9 (x:Cx) (s:Get) (cv:Loc→Option Value) (w:World) (v:Value):V→Prop
 | .own _ z es=>∃ b o cap,v= .slice (some (ad3 b o)) es.length cap∧x.ow b=some .res∧es.length≤cap∧Arr (AE x) w b o cap z es
 |r=>RdV x s cv w none v r
theorem D9.of_rd {x:Cx} {s:Get} {cv:Loc→Option Value} {w:World} {v:Value} {y:V} (h:RdV x s cv w none v y) (hn:y.A5=false):D9 x s cv w v y:=by
 cases y with
 |own nw z es=>simp[V.A5] at hn
 |_=>exact h
theorem D9.rd {x:Cx} {s:Get} {cv:Loc→Option Value} {w:World} {v:Value} {y:V} (h:D9 x s cv w v y) (hn:y.A5=false):RdV x s cv w none v y:=by
 cases y with
 |own nw z es=>simp[V.A5] at hn
 |_=>exact h
structure Enters (cfg:Cfg) (x:Cx) (vs:List V) (m:List (Cel×V)) (args:Array Value) (w:World):Prop where
 rel:Rel cfg x 0 (D1 m) Ee w
 size:args.size=vs.length
 args:∀ (i:Nat) v y,args[i]? =some v→vs[i]? =some y→D9 x (D1 m) (Aa x Ee w) w v y
structure Leaves (cfg:Cfg) (x x':Cx) (dep:Nat) (m m':List (Cel×V)) (r:V) (v:Value) (w w':World):Prop where
 rel:Rel cfg x' 0 (D1 m') Ee w'
 res:D9 x' (D1 m') (Aa x' Ee w') w' v r
 fr:Fr dep x x' w w'
 alive:∀ c,c.d<dep→(lk m c).isSome→(lk m' c).isSome
def CL (P:Program) (cfg:Cfg) (AY:Orc):Prop:=
 ∀ f dep vs m r m',AY f dep vs m=some (r,m')→∀ x w args,Enters cfg x vs m args w→Fk P f args w fun v w'=>∃ x',Leaves cfg x x' dep m m' r v w w'
theorem oc:∀ {vs:List V} {ds:List D},B6 vs=some ds→vs=ds.map .d
 | [],ds,h=>by cases h;rfl
 | .d x::r,ds,h=>by
  simp only[B6,abz] at h;obtain⟨ds',h1,rfl⟩:=h;simp[oc h1]
 | .own _ _ _::_,_,h| .bor _ _ _::_,_,h| .Am _ _ _::_,_,h| .Af _ _::_,_,h| .ref _ _ _::_,_,h| .clo _ _ _::_,_,h| .ifc _ _::_,_,h| .AM::_,_,h=>by cases h
section
variable {P:Program} {cfg:Cfg} {x:Cx} {N dep:Nat} {s:Get} {a:Act} {w:World}
theorem Az.walks {s':Get} {o:Oper} (h:Az P cfg x N dep s' a w o):D8 P cfg x N dep s' a w o:=by
 intro next Q hn
 obtain⟨v,w',x',hr,hR,hF⟩:=h;unfold Oper.wp;rcases hr with hr|⟨hr,rfl⟩
 · rw[hr];exact hn v w' x' hR hF
 · rw[hr];exact hn _ w' x' hR hF
theorem D8.pre {x1:Cx} {s':Get} {o:Oper} (h:D8 P cfg x1 N dep s' a w o) (F:Fr dep x x1 w w):D8 P cfg x N dep s' a w o:=by
 intro next Q hn
 exact h next Q fun v w' x' R' F'=>hn v w' x' R' (F.trans F')
theorem Fk.walks {f:FuncId} {args:Array Value} {R:Value→World→Prop} (h:Fk P f args w R) {o:Oper} (AW:(execOp a.eval o).run P w=(callFunc f args).run P w) {s':Get}
   (hR:∀ v w',R v w'→∃ x',Rel cfg x' N s' (a.put o.dst v) w'∧Fr dep x x' w w'):D8 P cfg x N dep s' a w o:=by
 intro next Q hn
 unfold Oper.wp;rw[AW];rcases h with⟨v,w',h1,h2⟩|⟨h1,h2⟩
 · rw[h1]
   obtain⟨x',h3,h4⟩:=hR v w' h2;exact hn v w' x' h3 h4
 · rw[h1,Oper.upon_enter]
   refine h2.mono fun e w' h=> ?_
   cases e with
   | returned v=>
    obtain⟨x',h3,h4⟩:=hR v w' h;exact hn v w' x' h3 h4
   |panicked c=>exact h.elim
   |outgrown=>exact h.elim
def Cx.pure (x:Cx) (shared:Bool):Cx:={x with ow:=fun b=>if shared then none else(x.ow b).map fun _=> .outer}
def Cx.back (x x':Cx) (n:Nat) (res:Option Own):Cx:={x with ow:=fun b=>if b<n then x.ow b else match x'.ow b with
 |none=>none
 |some .res=>res
 |some _=>some .outer}
theorem bu (x:Cx) (sh:Bool) (b:Nat):(x.pure sh).ow b=none∨(x.pure sh).ow b=some .outer:=by
 unfold Cx.pure;simp only;cases sh
 · cases x.ow b<;>simp
 · simp
theorem j3 {x:Cx} {sh:Bool} {b:Nat} (h:x.ow b=none):(x.pure sh).ow b=none:=by
 simp[Cx.pure,h]
theorem Rel.Ry (R:Rel cfg x N s a w) (sh:Bool):Rel cfg (x.pure sh) 0 (D1 []) Ee w:=by
 refine⟨rfl,.nil rfl,fun b hb=>R.bound b (fun e=>hb (j3 e)),fun l v h=> ?_,fun k v h=> ?_,fun c v h=> ?_,fun n e hg=> ?_,fun b h=> ?_,fun n ob hg=>⟨j3 (R.CV n ob hg).1,(R.CV n ob hg).2⟩⟩
 · cases l<;>cases h
 · cases h
 · cases h
 · exact(R.C7 n e hg).mono fun b o u h1 h2=>⟨j3 h1,h2⟩
 · rcases bu x sh b with e|e<;>rw[e] at h<;>rcases h with h|⟨_,h⟩<;>cases h
theorem fp {d:D}:∀ {cs:List D},D.CT cs=true→d∈cs→d.plain=true
 | c::cs,hp,hm=>by
  simp only[D.CT,aca] at hp;rcases ach.1 hm with rfl|hm
  · exact hp.1
  · exact fp hp.2 hm
theorem Rd.plain {F F':Nat→Prop} {w w':World} {v:Value} {d:D} (h:Rd F w v d):d.plain=true→Rd F' w' v d:=by
 induction h with
 |bool b=>exact fun _=> .bool b
 |int k n=>exact fun _=> .int k n
 |str s=>exact fun _=> .str s
 |AL ad=>exact fun _=> .AL ad
 |Cy b=>exact fun _=> .Cy b
 |slA ad cap=>exact fun _=> .slA ad cap
 |Bs=>exact fun _=> .Bs
 |Be=>exact fun _=> .Be
 |CU=>exact fun _=> .CU
 |Dn=>exact fun _=> .Dn
 |fn f=>exact fun _=> .fn f
 |unk v h=>exact fun _=> .unk v h
 |ifc t v d _ ih=>exact fun hp=> .ifc t v d (ih (by simpa[D.plain] using hp))
 |agg vs cs hl hc _ ih=>exact fun hp=> .agg vs cs hl hc fun i v c h1 h2=>ih i v c h1 h2 (fp (by simpa[D.plain] using hp) (List.mem_of_getElem? h2))
 |tup vs cs hl _ ih=>exact fun hp=> .tup vs cs hl fun i v c h1 h2=>ih i v c h1 h2 (fp (by simpa[D.plain] using hp) (List.mem_of_getElem? h2))
 |ptr=>exact fun hp=>by simp[D.plain] at hp
 | sl b o len cap z es vs hlen Ad=>
  intro hp;cases es with
  |nil=>exact .sl b o len cap z [] vs hlen Ad abw abw abw abw
  |cons e es=>simp[D.plain] at hp
theorem vl {d c:D} (h:d.plain=true) (hc:c∈d.cells):c.plain=true:=by
 unfold D.cells at hc;split at hc
 · exact fp (by simpa[D.plain] using h) hc
 · simp at hc;subst hc;exact h
theorem Rel.FM (R:Rel cfg x N s a w) {sh:Bool} {x':Cx} {w':World} {N':Nat} {s':Get} {a':Act} {dep':Nat} (hF:Fr dep' (x.pure sh) x' w w') (R':Rel cfg x' N' s' a' w') (res:Option Own):
   Rel cfg (x.back x' w.heap.size res) N s a w'∧Fr dep x (x.back x' w.heap.size res) w w':=by
 have hheap:∀ b,b<w.heap.size→w'.heap[b]? =w.heap[b]? :=fun b hb=>(hF.same b hb (bu x sh b)).1
 have Ag:∀ b o u,w.cell? (ad3 b o)=some u→b<w.heap.size∧w'.cell? (ad3 b o)=some u:=fun b o u h=>by
   have hlt:b<w.heap.size:=by simpa using World.block_lt_of_cell? _ _ h
   exact⟨hlt,by rw[Ap (hheap b hlt)];exact h⟩
 have how:∀ b,b<w.heap.size→(x.back x' w.heap.size res).ow b=x.ow b:=fun b hb=>by simp[Cx.back,hb]
 refine⟨R.step [] R.size rfl rfl ?_ ?_ (fun l hl=>by simp at hl) (fun k hk=>by simp at hk) ?_ hF.room (fun l hl=>by simp at hl) (fun d k h=>⟨h,rfl⟩) ?_ ?_ ?_ (fun b _ hb=>⟨how b hb,hheap b hb⟩),?_,?_,?_,hF.io,hF.room,rfl⟩
 · intro b hb
   by_cases hlt:b<w.heap.size
   · exact ac1 hlt hF.size
   · refine R'.bound b fun e=>hb ?_
     simp[Cx.back,hlt,e]
 · intro l _ v hv
   refine⟨hv,fun u hu=> ?_⟩
   cases l with
   |slot k=>exact hu
   |cell c=>exact(Ag _ _ _ hu).2
 · intro b o u h1 h2
   obtain⟨h3,h4⟩:=Ag b o u h2;exact⟨by rw[how b h3];exact h1,h4⟩
 · intro l0 _ b hb
   have hlt:=R.bound b (by rw[hb];simp)
   exact⟨by rw[how b hlt];exact hb,fun o u h=>(Ag b o u h).2⟩
 · intro c v hc
   obtain⟨h1,h2,h3⟩:=R.box c v hc;have hlt:=R.bound _ (by rw[h1];simp)
   exact⟨by rw[show(x.back x' w.heap.size res).ad=x.ad from rfl,how _ hlt];exact h1,h2,by rw[show(x.back x' w.heap.size res).ad=x.ad from rfl,bn (hheap _ hlt)];exact h3⟩
 · intro b hb
   by_cases hlt:b<w.heap.size
   · rw[how b hlt] at hb
     exact(R.Bo b hb).heap (hheap b hlt)
   · refine R'.Bo b ?_
     simp only[Cx.back,if_neg hlt] at hb;split at hb
     · rcases hb with h|⟨_,h⟩<;>cases h
     · rename_i e;exact .inl e
     · rcases hb with h|⟨_,h⟩<;>cases h
 · exact hF.size
 · intro b hb _
   exact⟨hheap b hb,how b hb⟩
 · intro d k _
   rfl
theorem ZM (R:Rel cfg x N s a w) {v:Value} {y:V} {d:D} {sh1:Bool} (h:DG s y=some (d,sh1)) {l:Option Loc} (hr:RdV x s (Aa x a w) w l v y) (sh:Bool) (hsh:sh1=true→sh=true):Rd (AE (x.pure sh)) w v d:=by
 have hm:∀ b o u,AE x b→w.cell? (ad3 b o)=some u→AE (x.pure sh) b∧w.cell? (ad3 b o)=some u:=fun b o u h1 h2=>⟨j3 h1,h2⟩
 unfold DG at h;split at h
 · cases h
   exact hr.An.canon.mono hm
 · cases h
   exact hr.FF.mono hm
 · cases h
   have:=hsh rfl;subst this;obtain⟨l0,b,o,cap,_,e,_,Ad,A⟩:=hr.EW;rw[e];exact(A.mono (F':=AE (x.pure true)) hm (fun _ _ h=>h) (fun _ _ _ h=>h)).rd (by simp[AE,Cx.pure]) rfl Ad
 · rename_i l off n
   split at h
   · rename_i z es hs
     cases h;have:=hsh rfl;subst this;obtain⟨b,o',cap',e,_,q3,q4,A⟩:=R.EN hr hs;have hlen:((es.drop off).take n).length=n:=by simp;omega
     rw[e];exact(A.mono (F':=AE (x.pure true)) hm (fun _ _ h=>h) (fun _ _ _ h=>h)).rd (by simp[AE,Cx.pure]) hlen q4
   · cases h
 · cases h
theorem bal (R:Rel cfg x N s a w):∀ {vs:List V} {ds:List D} {sh:Bool},BJ s vs=some (ds,sh)→∀ sh',(sh=true→sh'=true)→ds.length=vs.length∧
  ∀ (i:Nat) y d,vs[i]? =some y→ds[i]? =some d→∀ l v,RdV x s (Aa x a w) w l v y→Rd (AE (x.pure sh')) w v d
 | [],ds,sh,h,sh',_=>by cases h;simp
 | y::vs,ds,sh,h,sh',hs=>by
  unfold BJ at h;split at h
  · rename_i d s1 ds' s2 h1 h2
    cases h;obtain⟨g1,g2⟩:=bal R h2 sh' (fun e=>hs (by simp[e]))
    refine⟨by simp[g1],fun i y' d' e1 e2 l v hr=> ?_⟩
    cases i with
    |zero=>simp at e1 e2;subst e1;subst e2;exact ZM R h1 hr sh' (fun e=>hs (by simp[e]))
    |succ i=>exact g2 i y' d' (by simpa using e1) (by simpa using e2) l v hr
  · cases h
theorem abd {AY:Orc} (hO:CL P cfg AY) (R:Rel cfg x N s a w) {o:Oper} {k:Nat} (hd:o.dst=some k) (hk:k<N) {f:FuncId} {args:Array Value} {vs:List V} (AW:(execOp a.eval o).run P w=(callFunc f args).run P w)
   (hsz:args.size=vs.length) (hargs:∀ (i:Nat) v y,args[i]? =some v→vs[i]? =some y→∃ l,RdV x s (Aa x a w) w l v y) {own:Bool} {u:List (Loc×V)} (hu:Bb AY s o.dst own f vs=some u):D8 P cfg x N dep (AK s u) a w o:=by
 unfold Bb at hu;split at hu
 · rename_i ds sh hds
   split at hu
   · rename_i r m hor
     obtain⟨g1,g2⟩:=bal R hds sh id;have hE:Enters cfg (x.pure sh) (ds.map .d) [] args w:=by
       refine⟨R.Ry sh,by simp[hsz,g1],fun i v y h1 h2=> ?_⟩
       rw[acf] at h2;cases hd':ds[i]? with
       |none=>rw[hd'] at h2;cases h2
       | some d=>
         rw[hd'] at h2;cases h2;have hlt:i<vs.length:=by rw[← g1];exact(ab1.1 hd').1
         obtain⟨l,hr⟩:=hargs i v _ h1 (ab0 hlt);exact RdV.d _ _ _ (g2 i _ d (ab0 hlt) hd' l v hr)
     have hdoes:=hO f 0 _ [] r m hor _ w args hE;have hnew:∀ (x':Cx) w',Fr 0 (x.pure sh) x' w w'→∀ b,x'.ow b=some .res→¬ b<w.heap.size:=fun x' w' F b hb hlt=>by
       have:=(F.same b hlt (bu x sh b)).2;rcases bu x sh b with h|h<;>rw[hb,h] at this<;>cases this
     have hfree:∀ (x':Cx) w' res,Fr 0 (x.pure sh) x' w w'→sh=false→∀ b o u,AE x' b→w'.cell? (ad3 b o)=some u→AE (x.back x' w.heap.size res) b∧w'.cell? (ad3 b o)=some u:=by
       intro x' w' res F hsh b o u h1 h2;refine⟨?_,h2⟩;subst hsh;have h1':x'.ow b=none:=h1;simp only[AE,Cx.back];split
       · rename_i hlt
         have h3:=(F.same b hlt (bu x false b)).2;rw[h1'] at h3;cases hx:x.ow b with
         |none=>rfl
         |some o=>simp[Cx.pure,hx] at h3
       · rw[h1']
     split at hu
     · rename_i u' hl
       cases hu;unfold BC at hl;split at hl
       · rename_i y
         split at hl
         · cases hl
         · rename_i hq
           cases hl;refine hdoes.walks AW (fun v w' hex=> ?_)
           obtain⟨x',L⟩:=hex;rw[hd];obtain⟨R2,F2⟩:=R.FM (dep:=dep) L.fr L.rel none;have hr:Rd (AE x') w' v y:=RdV.An L.res;have hr2:Rd (AE (x.back x' w.heap.size none)) w' v y:=by
             cases hsh:sh with
             |false=>exact hr.mono (hfree x' w' none L.fr hsh)
             | true=>
              rw[hsh] at hq;simp at hq;exact hr.plain hq
           exact⟨_,R2.put hk rfl (l:=none) (.d _ _ _ (by split;exact hr2;exact hr2.canon)),F2⟩
       · rename_i nw z es
         split at hl
         · cases hl
         · rename_i hq
           cases hl;refine hdoes.walks AW (fun v w' hex=> ?_)
           obtain⟨x',L⟩:=hex;rw[hd];obtain⟨b,of,cap,rfl,q2,q3,A⟩:∃ b o cap,v= .slice (some (ad3 b o)) es.length cap∧x'.ow b=some .res∧es.length≤cap∧Arr (AE x') w' b o cap z es:=L.res
           have hb:=hnew x' w' L.fr b q2;have hA:∀ res,Arr (AE (x.back x' w.heap.size res)) w' b of cap z es:=fun res=>by
             cases hsh:sh with
             |false=>exact A.mono (hfree x' w' res L.fr hsh) (fun _ _ h=>h) (fun _ _ _ h=>h)
             | true=>
              rw[hsh] at hq;simp only[Bool.true_and,acd,acj] at hq;refine⟨A.pos,A.room,A.wid,A.cel,fun i e he j c hc=> ?_⟩
              obtain⟨v,h1,h2⟩:=A.els i e he j c hc;exact⟨v,h1,h2.plain (vl (fp hq (List.mem_of_getElem? he)) (List.mem_of_getElem? hc))⟩
           cases own
           · obtain⟨R2,F2⟩:=R.FM (dep:=dep) L.fr L.rel none
             refine⟨_,R2.put hk rfl (l:=none) (.d _ _ _ ((hA none).rd ?_ rfl q3)),F2⟩;simp[AE,Cx.back,hb,q2]
           · obtain⟨R2,F2⟩:=R.FM (dep:=dep) L.fr L.rel (some .res)
             have how:(x.back x' w.heap.size (some .res)).ow b=some .res:=by simp[Cx.back,hb,q2]
             exact⟨_,R2.place hk how (hA _) rfl q3,F2.trans (Fr.Ea how _)⟩
       · cases hl
     · unfold Hx at hu
       split at hu
       · rename_i g ys _
         split at hu
         · cases hu
         · rename_i hq
           cases hu;simp only[acu,not_or,ack] at hq;obtain⟨hsh,hys⟩:=hq;obtain⟨es,hes⟩:∃ es,B6 ys=some es:=by
             cases h:B6 ys with
             |none=>rw[h] at hys;cases hys
             |some es=>exact⟨es,rfl⟩
           have:=oc hes;subst this;refine hdoes.walks AW (fun v w' hex=> ?_)
           obtain⟨x',L⟩:=hex;rw[hd];obtain⟨R2,F2⟩:=R.FM (dep:=dep) L.fr L.rel none;have hr:RdV x' (D1 m) (Aa x' Ee w') w' none v (.clo g [] (es.map .d)):=L.res;cases hr with
           |clo _ _ va vb _ _ hl1 hl2 h1 h2=>
           have hva:va=[]:=by simpa using hl1
           subst hva;refine⟨_,R2.put hk rfl (l:=none) (.clo none g [] vb [] (es.map .d) rfl hl2 (fun i v y h=>by simp at h) (fun i u y e1 e2=> ?_)),F2⟩
           have:=h2 i u y e1 e2;rw[acf,abz] at e2;obtain⟨e,_,rfl⟩:=e2;exact .d _ _ _ ((RdV.An this).mono (hfree x' w' none L.fr hsh))
       · cases hu
   · cases hu
 · cases hu
end
end Go.Ev
namespace Go.Ev
open Go
section
variable {P:Program} {cfg:Cfg} {x:Cx} {N dep:Nat} {s:Get} {a:Act} {w:World}
theorem mq {n:Nat} {v:V}:∀ {vs:List V},V.CA n vs=true→v∈vs→v.A4 n=true
 | c::cs,hp,hm=>by
  simp only[V.CA,aca] at hp;rcases ach.1 hm with rfl|hm
  · exact hp.1
  · exact mq hp.2 hm
theorem RdV.move {x x':Cx} {s s':Get} {cv cv':Loc→Option Value} {w w':World} {l:Option Loc} {v:Value} {y:V} (n:Nat) (h:RdV x s cv w l v y)
  (hc:∀ b o u,x.ow b=none→w.cell? (ad3 b o)=some u→x'.ow b=none∧w'.cell? (ad3 b o)=some u)
  (hR:Room w w')
  (hB:∀ d k,d<n→(s (.cell ⟨d,k,0⟩)).isSome→(s' (.cell ⟨d,k,0⟩)).isSome∧x'.ad d k=x.ad d k)
  (hO:∀ l0,l=some l0→∀ b,x.ow b=some (.at l0)→x'.ow b=some (.at l0)∧∀ o u,w.cell? (ad3 b o)=some u→w'.cell? (ad3 b o)=some u):
  y.A4 n=true→RdV x' s' cv' w' l v y:=by
 induction h with
 |d l v y h=>exact fun _=> .d l v y (h.mono hc)
 | own l b o len cap z nw es how hlen Ad h=>
  intro _;obtain⟨ho1,ho2⟩:=hO l rfl b how;refine .own l b o len cap z nw es ho1 hlen Ad ⟨h.pos,fun j hj=> ?_,h.wid,h.cel,fun i e he j c hj=> ?_⟩
  · obtain⟨⟨u,hu⟩,hf⟩:=h.room j hj
    exact hR b _ u hu hf
  · obtain⟨v,h1,h2⟩:=h.els i e he j c hj
    exact⟨v,ho2 _ _ h1,h2.mono hc⟩
 |bor l l' off len b o' cap' Ad h=>exact fun hy=>by simp[V.A4] at hy
 |Am l l' i off b o' h=>exact fun hy=>by simp[V.A4] at hy
 |rcd=>exact fun hy=>by simp[V.A4] at hy
 |Af l b o off e h=>exact fun _=> .Af l b o off e (h.mono hc)
 | ref l d k off h=>
  intro hy;obtain⟨h1,h2⟩:=hB d k (by simpa[V.A4] using hy) h
  rw[← h2];exact .ref l d k off h1
 | clo l f va vb xs ys hl A6 _ _ ih ih'=>
  intro hy;simp only[V.A4,aca] at hy;exact .clo l f va vb xs ys hl A6 (fun i v y h1 h2=>ih i v y h1 h2 abw (mq hy.1 (List.mem_of_getElem? h2))) (fun i v y h1 h2=>ih' i v y h1 h2 abw (mq hy.2 (List.mem_of_getElem? h2)))
 |ifc l t v y _ ih=>exact fun hy=> .ifc l t v y (ih abw (by simpa[V.A4] using hy))
 | vec l b o cap ys vs Ad hm _ ih=>
  intro hy;simp only[V.A4] at hy;exact .vec l b o cap ys vs Ad (fun i y h1=>hc b _ _ (hm i y h1).1 (hm i y h1).2) (fun i y h1=>ih i y h1 abw (mq hy (List.mem_of_getElem? h1)))
 |BB l b o v y hb hm _ ih=>exact fun hy=> .BB l b o v y (hc b _ _ hb hm).1 (hc b _ _ hb hm).2 (ih abw (by simpa[V.A4] using hy))
 |AM l v=>exact fun _=> .AM l v
def Cx.CP (x:Cx):Cx:={x with ow:=fun b=>match x.ow b with
 |some (.at (.slot _))=>some .outer
 |some .res=>some .outer
 |o=>o}
def Cx.Bn (x x':Cx) (dep:Nat) (res:Option Own):Cx:=⟨fun b=>match x.ow b with
 |some (.at (.slot k))=>some (.at (.slot k))
 |some .res=>some .outer
 | _=>match x'.ow b with
  |some (.at (.slot _))=>some .outer
  |some .res=>res
  |o=>o,x'.ad,x.base⟩
theorem ay {x:Cx} {b:Nat} (h:x.ow b=none):x.CP.ow b=none:=by simp[Cx.CP,h]
theorem j5 (dep:Nat) (c:Cel):∀ (m:List (Cel×V)),lk (Ao dep m) c=if c.d≤dep then lk m c else none
 | []=>by simp[Ao,lk]
 | (c',v)::r=>by
  unfold Ao;have ih:=j5 dep c r;split
  · rename_i h
    simp only[lk];by_cases e:c'=c
    · subst e;simp[h]
    · simp[e,ih]
  · rename_i h
    rw[ih];simp only[lk];by_cases e:c'=c
    · subst e;simp[h]
    · simp[e]
theorem dj (dep k:Nat):∀ (e:List (Nat×V)),lk (Ab dep e) k=(lk e k).map (V.BX dep)
 | []=>rfl
 | (k',v)::r=>by
  simp only[Ab,lk];split
  · rfl
  · exact dj dep k r
theorem blm {α β:Type} [DecidableEq α] {k:α} {v:β}:∀ {m:List (α×β)},lk m k=some v→(k,v)∈m
 | (k',v')::r,h=>by
  simp only[lk] at h;split at h
  · rename_i e;cases h;subst e;simp
  · exact acn _ (blm h)
theorem Rel.lT {e:List (Nat×V)} {m:List (Cel×V)} (R:Rel cfg x N (St.get ⟨e,m⟩) a w):Rel cfg x.CP 0 (D1 m) Ee w:=by
 have hc:∀ b o u,x.ow b=none→w.cell? (ad3 b o)=some u→x.CP.ow b=none∧w.cell? (ad3 b o)=some u:=fun b o u h1 h2=>⟨ay h1,h2⟩
 refine⟨rfl,.nil rfl,fun b hb=>R.bound b (fun e=>hb (ay e)),fun l v h=> ?_,(fun k v h=>by cases h),fun c v h=> ?_,fun n e hg=>(R.C7 n e hg).mono hc,fun b h=>R.Bo b ?_,fun n ob hg=>⟨ay (R.CV n ob hg).1,(R.CV n ob hg).2⟩⟩
 rotate_left 2
 · simp only[Cx.CP] at h
   split at h
   · rcases h with h|⟨_,h⟩<;>cases h
   · rcases h with h|⟨_,h⟩<;>cases h
   · exact h
 · cases l with
   |slot k=>cases h
   | cell c=>
     obtain⟨u,hu,hr⟩:=R.Bl (.cell c) v h;refine⟨u,hu,hr.mono hc (fun b o u h1 h2=>⟨⟨u,h1⟩,h2⟩) (fun l' z es hs=> ?_) (fun d k h=>⟨h,rfl⟩) (fun l0 e b hb=> ?_)⟩
     · cases l' with
       |slot k=>cases hs
       |cell c'=>exact⟨es,hs,rfl,fun b o L C h=>⟨L,C,h⟩⟩
     · cases e
       exact⟨by simp[Cx.CP,hb],fun o u h=>h⟩
 · obtain⟨h1,h2,h3⟩:=R.box c v h
   exact⟨by simp[Cx.CP,h1],h2,h3⟩
theorem Rel.bG {e:List (Nat×V)} {m m':List (Cel×V)} (R:Rel cfg x N (St.get ⟨e,m⟩) a w) {x':Cx} {w':World} {K:Nat} (hK:K<w.heap.size→x.ow K=none∧∀ c t fr,w.heap[K]? ≠some (.cells c t fr)) (L:Rel cfg x' 0 (D1 m') Ee w')
   (F:FrK K (dep+1) x.CP x' w w') (halive:∀ c:Cel,c.d<dep+1→(lk m c).isSome→(lk m' c).isSome)
   (hup:(Ao dep m').all (fun p=>p.2.A4 (dep+1))=true) (res:Option Own) (hres:∀ k,res≠some (.at (.slot k))):
   Rel cfg (x.Bn x' dep res) N (St.get ⟨Ab dep e,Ao dep m'⟩) a w'∧FrK K dep x (x.Bn x' dep res) w w':=by
 have hout:∀ b,b<w.heap.size→(∃ k,x.ow b=some (.at (.slot k)))∨x.ow b=some .res→w'.heap[b]? =w.heap[b]? ∧x'.ow b=some .outer:=fun b hb h=>by
   have h1:x.CP.ow b=some .outer:=by
     rcases h with⟨k,h⟩|h<;>simp[Cx.CP,h]
   obtain⟨h2,h3⟩:=F.same b hb (.inr h1);exact⟨h2 (fun e=>by have:=(hK (e ▸ hb)).1;rw[← e] at this;rcases h with⟨k,h⟩|h<;>rw[h] at this<;>cases this),h3.trans h1⟩
 have hnone:∀ b,b<w.heap.size→x.ow b=none→(b≠K→w'.heap[b]? =w.heap[b]?)∧x'.ow b=none:=fun b hb h=>by
   obtain⟨h2,h3⟩:=F.same b hb (.inl (ay h));exact⟨h2,h3.trans (ay h)⟩
 have hcK:∀ b o u,w.cell? (ad3 b o)=some u→b≠K:=fun b o u h e=>by
   subst e;have:=(hK (by simpa using World.block_lt_of_cell? _ _ h)).2
   unfold World.cell? at h;split at h
   · rename_i c t fr e;exact this _ _ _ e
   · cases h
 have hlt:∀ b o u,w.cell? (ad3 b o)=some u→b<w.heap.size:=fun b o u h=>by simpa using World.block_lt_of_cell? _ _ h
 have hyn:∀ b,x.ow b=none→x'.ow b=none→(x.Bn x' dep res).ow b=none:=fun b h h'=>by simp[Cx.Bn,h,h']
 have hy:∀ b o,x'.ow b=o→(∀ k,o≠some (.at (.slot k)))→o≠some .res→o≠some .outer→(x.Bn x' dep res).ow b=o:=fun b o h h1 h2 h3=>by
   have hns:∀ o',x.ow b=some o'→(∀ k,o'≠ .at (.slot k))∧o'≠ .res:=fun o' e=>by
     have hb:=R.bound b (by rw[e];simp)
     refine⟨fun k e'=> ?_,fun e'=> ?_⟩
     · have:=(hout b hb (.inl ⟨k,by rw[e,e']⟩)).2
       exact h3 (h ▸ this)
     · have:=(hout b hb (.inr (by rw[e,e']))).2
       exact h3 (h ▸ this)
   have hin:(match x'.ow b with|some (.at (.slot _))=>some .outer|some .res=>res|o=>o)=o:=by
     rw[h];split
     · exact absurd rfl (h1 _)
     · exact absurd rfl h2
     · rfl
   simp only[Cx.Bn];split
   · rename_i k e;exact absurd rfl ((hns _ e).1 k)
   · rename_i e;exact absurd rfl (hns _ e).2
   · exact hin
 have hc:∀ b o u,x.ow b=none→w.cell? (ad3 b o)=some u→(x.Bn x' dep res).ow b=none∧w'.cell? (ad3 b o)=some u:=fun b o u h1 h2=>by
   obtain⟨h3,h4⟩:=hnone b (hlt b o u h2) h1;exact⟨hyn b h1 h4,by rw[Ap (h3 (hcK b o u h2))];exact h2⟩
 have hcm:∀ c v,St.get ⟨Ab dep e,Ao dep m'⟩ (.cell c)=some v→c.d≤dep∧lk m' c=some v:=fun c v h=>by
   have h':lk (Ao dep m') c=some v:=h;rw[j5] at h';split at h'
   · rename_i hd;exact⟨hd,h'⟩
   · cases h'
 have hal:∀ d k,d≤dep→(lk m' ⟨d,k,0⟩).isSome→(St.get ⟨Ab dep e,Ao dep m'⟩ (.cell ⟨d,k,0⟩)).isSome:=fun d k hd h=>by
   show(lk (Ao dep m') _).isSome;rw[j5,if_pos hd];exact h
 refine⟨⟨R.size,R.defs.mono R.bound rfl rfl (fun b h hb=> ?_),fun b hb=> ?_,fun l v h=> ?_,fun k v h=> ?_,fun c v h=> ?_,fun n e hg=>(R.C7 n e hg).mono hc,fun b h=> ?_,fun n ob hg=> ?_⟩,F.size,fun b hb h=> ?_,fun d k hd=>F.ad d k abu,F.io,F.room,rfl⟩
 · have hh:x.CP.ow b=x.ow b:=by simp[Cx.CP,h]
   obtain⟨h2,h3⟩:=F.same b hb (by rw[hh];exact .inr h)
   refine⟨?_,h2 (fun e=> ?_)⟩
   · rw[hh] at h3
     simp[Cx.Bn,h,h3]
   · have:=(hK (e ▸ hb)).1;rw[← e] at this;rw[h] at this;cases this
 · by_cases hx:x.ow b=none
   · refine L.bound b fun e=>hb (hyn b hx e)
   · exact ac1 (R.bound b hx) F.size
 · cases l with
   | slot k=>
     have h':lk (Ab dep e) k=some v:=h;rw[dj] at h';simp only[abz] at h';obtain⟨v0,h0,rfl⟩:=h';obtain⟨u,hu,hr⟩:=R.Bl (.slot k) v0 h0;refine⟨u,hu,?_⟩;have hback:∀ l' z es,St.get ⟨Ab dep e,Ao dep m'⟩ (.slot l')=some (.own false z es)→St.get ⟨e,m⟩ (.slot l')=some (.own false z es):=fun l' z es h1=>by
       have h2:lk (Ab dep e) l'=some (.own false z es):=h1;rw[dj] at h2;simp only[abz] at h2;obtain⟨v1,h3,h4⟩:=h2;show lk e l'=_;rw[h3];unfold V.BX at h4;split at h4
       · cases h4
       · cases h4
       · split at h4
         · rw[h4]
         · cases h4
     unfold V.BX;split
     · rename_i l' off n
       cases hr with
       |bor _ _ _ _ b o' cap' Ad h1=>
       refine .bor _ _ _ _ _ _ _ Ad fun z es hs=> ?_
       obtain⟨o,L',C,g1,g2,g3,g4⟩:=h1 z es (hback _ z es hs);exact⟨o,L',C,g1,g2,g3,fun j hj=>let⟨⟨u,hu⟩,hf⟩:=g4 j hj;F.room b _ u hu hf⟩
     · rename_i l' i off
       cases hr with
       |Am _ _ _ _ b o' h1=>
       refine .Am _ _ _ _ _ _ fun z es hs=> ?_
       exact h1 z es (hback _ z es hs)
     · split
       · rename_i hup'
         refine hr.move (dep+1) hc F.room (fun d k hd h1=>⟨hal d k abu (halive ⟨d,k,0⟩ (by show d<dep+1;omega) h1),F.ad d k abu⟩) (fun l0 e0 b hb=> ?_) hup'
         cases e0;have hbl:=R.bound b (by rw[hb];simp)
         exact⟨by simp[Cx.Bn,hb],fun o u h1=>by rw[Ap (hout b hbl (.inl ⟨k,hb⟩)).1];exact h1⟩
       · exact .AM _ _
   | cell c=>
     obtain⟨hd,hm'⟩:=hcm c v h;obtain⟨u,hu,hr⟩:=L.Bl (.cell c) v hm';refine⟨u,hu,?_⟩;have hv:v.A4 (dep+1)=true:=by
       have:=adn.1 hup _ (blm h);exact this
     refine hr.move (dep+1) (fun b o u h1 h2=>⟨hy b none h1 abw abw abw,h2⟩) (.refl _) (fun d k hd h1=>⟨hal d k abu h1,rfl⟩) (fun l0 e0 b hb=> ?_) hv
     cases e0;exact⟨hy b _ hb abw abw abw,fun o u h=>h⟩
 · have h':lk (Ab dep e) k=some v:=h
   rw[dj] at h';simp only[abz] at h';obtain⟨v0,h0,rfl⟩:=h';exact R.CB k v0 h0
 · obtain⟨hd,hm'⟩:=hcm c v h
   obtain⟨h1,h2,h3⟩:=L.box c v hm';exact⟨hy _ _ h1 abw abw abw,hal c.d c.k hd h2,h3⟩
 · simp only[Cx.Bn] at h
   have no:∀ {X:Prop} {o:Option Own},IQ o→o=some .outer→X:=fun h e=>by rw[e] at h;rcases h with h|⟨_,h⟩<;>cases h
   split at h
   · rename_i k e
     have hlt:=R.bound b (by rw[e];simp)
     exact(R.Bo b (by rw[e];exact .inr ⟨_,rfl⟩)).heap (hout b hlt (.inl ⟨k,e⟩)).1
   · exact no h rfl
   · split at h
     · exact no h rfl
     · rename_i e;exact L.Bo b (by rw[e];exact .inl rfl)
     · exact L.Bo b h
 · obtain⟨g1,g2⟩:=R.CV n ob hg
   obtain⟨g3,g4⟩:=hnone n g2.lt g1;obtain⟨t,fr,g5⟩:=g2;exact⟨hyn n g1 g4,Cf.heap ⟨t,fr,g5⟩ (g3 (fun e=>by
     subst e;exact(hK (act.1 g5).1).2 _ _ _ g5))⟩
 · have hh:x.CP.ow b=x.ow b:=by rcases h with h|h<;>simp[Cx.CP,h]
   obtain⟨h2,h3⟩:=F.same b hb (by rw[hh];exact h)
   refine⟨h2,?_⟩;rw[hh] at h3;rcases h with h|h<;>simp[Cx.Bn,h,h3]
theorem Rel.Qj {e:List (Nat×V)} {m m':List (Cel×V)} (R:Rel cfg x N (St.get ⟨e,m⟩) a w) {x':Cx} {w':World} {r:V} {v:Value} (L:Leaves cfg x.CP x' (dep+1) m m' r v w w')
  (hup:(Ao dep m').all (fun p=>p.2.A4 (dep+1))=true) (res:Option Own) (hres:∀ k,res≠some (.at (.slot k))):
  Rel cfg (x.Bn x' dep res) N (St.get ⟨Ab dep e,Ao dep m'⟩) a w'∧Fr dep x (x.Bn x' dep res) w w':=by
 obtain⟨h1,h2⟩:=R.bG (K:=w.heap.size) (fun h=>absurd h (Nat.lt_irrefl _)) L.rel (L.fr.toK _) L.alive hup res hres
 exact⟨h1,h2.bW (ab5 _)⟩
theorem QU {α β:Type} [DecidableEq α] (k:α) (v:β) (k':α):∀ m:List (α×β),lk (Go.Ev.st m k v) k'=if k'=k then some v else lk m k'
 | []=>by
  simp only[Go.Ev.st,lk];by_cases e:k=k'
  · simp[e]
  · simp[e,Ne.symm e]
 | (k0,v0)::r=>by
  simp only[Go.Ev.st];split
  · rename_i e
    subst e;simp only[lk];by_cases e:k0=k'
    · simp[e]
    · simp[e,Ne.symm e]
  · rename_i e
    simp only[lk,QU k v k' r];by_cases e':k0=k'
    · subst e';simp[e]
    · simp[e']
theorem X4 (s:St) (l:Loc) (v:V):(s.set l v).get=fun l'=>if l'=l then some v else s.get l':=by
 funext l'
 cases l with
 | slot k=>
  cases l' with
  | slot k'=>
   show lk (Go.Ev.st s.env k v) k'=_;rw[QU];simp only[Loc.slot.injEq];rfl
  |cell c=>simp only[reduceCtorEq,if_false];rfl
 | cell c=>
  cases l' with
  |slot k'=>simp only[reduceCtorEq,if_false];rfl
  | cell c'=>
   show lk (Go.Ev.st s.mem c v) c'=_;rw[QU];simp only[Loc.cell.injEq];rfl
theorem eh:∀ (u:List (Loc×V)) (s:St),(s.upd u).get=AK s.get u
 | [],s=>rfl
 | (l,v)::r,s=>by
  show((s.set l v).upd r).get=AK (fun l'=>if l'=l then some v else s.get l') r
  rw[eh r,X4]
theorem bc7 {AY:Orc} (hO:CL P cfg AY) {st:St} (R:Rel cfg x N st.get a w) {o:Oper} {k:Nat} (hd:o.dst=some k) (hk:k<N) {f:FuncId} {args:Array Value} {vs:List V} (AW:(execOp a.eval o).run P w=(callFunc f args).run P w)
   (hsz:args.size=vs.length) (hargs:∀ (i:Nat) v y,args[i]? =some v→vs[i]? =some y→∃ l,RdV x st.get (Aa x a w) w l v y) {own:Bool} {Av:St} (hu:B0 AY dep st o.dst own f vs=some Av):D8 P cfg x N dep Av.get a w o:=by
 obtain⟨e,m⟩:=st;unfold B0 at hu;split at hu
 · rename_i hq
   simp only[aca] at hq;split at hu
   · rename_i r m' hor
     split at hu
     · rename_i hup
       have hE:Enters cfg x.CP vs m args w:=by
         refine⟨R.lT,hsz,fun i v y h1 h2=> ?_⟩
         obtain⟨l,hr⟩:=hargs i v y h1 h2;have hp:y.AZ=true:=adn.1 hq.2 _ (List.mem_of_getElem? h2);have hno:y.A5=false:=by cases y<;>first|rfl|simp[V.AZ] at hp
         refine D9.of_rd ((hr.Cm (l':=none) hno).mono (fun b o u h1 h2=>⟨ay h1,h2⟩) (fun b o u h1 h2=>⟨⟨u,h1⟩,h2⟩) (fun l' z es hs=> ?_) (fun d k h=>⟨h,rfl⟩) (fun l0 e0=>by cases e0)) hno
         cases l' with
         |slot k=>cases hs
         |cell c'=>exact⟨es,hs,rfl,fun b o L C h=>⟨L,C,h⟩⟩
       have hdoes:=hO f (dep+1) vs m r m' hor _ w args hE;have hfree:∀ (x':Cx) (v:Value) w' res,Leaves cfg x.CP x' (dep+1) m m' r v w w'→∀ b o,x'.ow b=o→(o=none∨o=some .res)→(x.Bn x' dep res).ow b=if o=none then none else res:=by
         intro x' v w' res L b o h ho;have hno:∀ o',x.ow b=some o'→(∃ k,o'= .at (.slot k))∨o'= .res→False:=fun o' e1 e2=>by
           have hb:=R.bound b (by rw[e1];simp)
           have h1:x.CP.ow b=some .outer:=by rcases e2 with⟨k,rfl⟩|rfl<;>simp[Cx.CP,e1]
           have:=(L.fr.same b hb (.inr h1)).2;rw[h,h1] at this;rcases ho with ho|ho<;>rw[ho] at this<;>cases this
         simp only[Cx.Bn];split
         · rename_i k e1;exact(hno _ e1 (.inl ⟨k,rfl⟩)).elim
         · rename_i e1;exact(hno _ e1 (.inr rfl)).elim
         · rw[h]
           rcases ho with rfl|rfl<;>simp
       have hmono:∀ (x':Cx) (v:Value) w' res,Leaves cfg x.CP x' (dep+1) m m' r v w w'→∀ b o u,AE x' b→w'.cell? (ad3 b o)=some u→AE (x.Bn x' dep res) b∧w'.cell? (ad3 b o)=some u:=
         fun x' v w' res L b o u h1 h2=>⟨by have:=hfree x' v w' res L b none h1 (.inl rfl);simpa[AE] using this,h2⟩
       split at hu
       · rename_i u hl
         cases hu;rw[eh];refine hdoes.walks AW (fun v w' hex=> ?_)
         obtain⟨x',L⟩:=hex;rw[hd] at hl ⊢;unfold BC at hl;split at hl
         · rename_i y
           split at hl
           · cases hl
           · cases hl
             obtain⟨R2,F2⟩:=R.Qj L hup none abw;have hr:Rd (AE x') w' v y:=RdV.An L.res;exact⟨_,R2.put hk rfl (l:=none) (.d _ _ _ (by split;exact hr.mono (hmono x' v w' none L);exact(hr.mono (hmono x' v w' none L)).canon)),F2⟩
         · rename_i nw z es
           split at hl
           · cases hl
           · cases hl
             have hres:=L.res;obtain⟨b,of,cap,rfl,q2,q3,A⟩:∃ b o cap,v= .slice (some (ad3 b o)) es.length cap∧x'.ow b=some .res∧es.length≤cap∧Arr (AE x') w' b o cap z es:=hres
             have hA:∀ res,Arr (AE (x.Bn x' dep res)) w' b of cap z es:=fun res=>A.mono (hmono x' _ w' res L) (fun _ _ h=>h) (fun _ _ _ h=>h)
             cases own
             · obtain⟨R2,F2⟩:=R.Qj L hup none abw
               refine⟨_,R2.put hk rfl (l:=none) (.d _ _ _ ((hA none).rd ?_ rfl q3)),F2⟩;have:=hfree x' _ w' none L b _ q2 (.inr rfl);simpa[AE] using this
             · obtain⟨R2,F2⟩:=R.Qj L hup (some .res) abw
               have how:(x.Bn x' dep (some .res)).ow b=some .res:=by
                have:=hfree x' _ w' (some .res) L b _ q2 (.inr rfl);simpa using this
               exact⟨_,R2.place hk how (hA _) rfl q3,F2.trans (Fr.Ea how _)⟩
         · cases hl
       · rename_i hl
         split at hu
         · rename_i hq2
           simp only[aca] at hq2;cases hu;rw[eh];refine hdoes.walks AW (fun v w' hex=> ?_)
           obtain⟨x',L⟩:=hex;rw[hd];have hno:r.A5=false:=by cases r<;>first|rfl|simp[V.AZ] at hq2
           have hr:RdV x' (D1 m') (Aa x' Ee w') w' none v r:=by
             have:=L.res;cases r<;>first|exact this|simp[V.A5] at hno
           obtain⟨R2,F2⟩:=R.Qj L hup none abw;refine⟨_,R2.put hk hno (l:=none) ?_,F2⟩;refine hr.move (dep+1) (fun b o u h1 h2=>hmono x' v w' none L b o u h1 h2) (.refl _) (fun d k hd h1=>⟨?_,rfl⟩) (fun l0 e0=>by cases e0) hq2.1
           show(lk (Ao dep m') _).isSome;rw[j5,if_pos (show _≤_ by simp only;omega)];exact h1
         · cases hu
     · cases hu
   · cases hu
 · cases hu
end
end Go.Ev
namespace Go.Ev
open Go Go.RowKit
def Qn (P:Program) (f:FuncId) (lb:Array Value) (xs:List (Array Value)) (Kp:World→World→Prop) (w:World):Prop:=
 ∀ (l:Nat) (J:Nat→World→Prop) (Jx:World→Prop) (W:World),Below w.heap.size w W→(∀ i X Y,J i X→X.grownBy Y none→J i Y)→(∀ X Y,Jx X→X.grownBy Y none→Jx Y)→
  (∀ i x X,xs[i]? =some x→J i X→YieldAt Fence.wide 0 P l x X fun e Y=>(e= .returned (.bool true)∧J (i+1) Y∧Kp X Y)∨(e= .returned (.bool false)∧Jx Y))→
  J 0 W→CallsIn Fence.wide 0 P f (#[.func (.yield l) #[] #[]]++lb) W fun e Y=>(∃ v,e= .returned v)∧(J xs.length Y∨Jx Y)
def F8 (F:Nat→Prop) (w X Y:World):Prop:=∀ b,F b→b<w.heap.size→Y.heap[b]? =X.heap[b]?
def Wd (P:Program) (cfg:Cfg):Prop:=
 ∀ f g,cfg.iter f=some g→(∀ args w,(callFunc f args).run P w= .ok (.enter f args) w)∧∀ ds its,g ds=some its→∀ (F:Nat→Prop) (lb:Array Value) (w:World),lb.size=ds.length→
  (∀ (i:Nat) v d,lb[i]? =some v→ds[i]? =some d→Rd F w v d)→∃ xs:List (Array Value),xs.length=its.length∧
   (∀ (i:Nat) x it,xs[i]? =some x→its[i]? =some it→x.size=it.length∧∀ (j:Nat) v d,x[j]? =some v→it[j]? =some d→Rd F w v d)∧Qn P f lb xs (F8 F w) w
end Go.Ev
namespace Go.Ev
open Go
def Wc (P:Program) (cfg:Cfg):Prop:=
 ∀ t name f,cfg.GH t name=some f→∀ v w,(method (P.types.size+Made.depth) t v name).run P w= .ok (f,v) w
def boh (P:Program) (cfg:Cfg):Prop:=
 ∀ f,cfg.clip f=true→∀ ad len cap w,len≤cap→Fk P f #[.slice ad len cap] w fun v w'=>v= .slice ad len len∧w'=w
structure CM (P:Program) (cfg:Cfg):Prop where
 Gk:aaq P cfg
 GH:Wc P cfg
 clip:boh P cfg
 iter:Wd P cfg
section
variable {P:Program} {cfg:Cfg} {x:Cx} {N dep:Nat} {s:Get} {a:Act} {w:World}
theorem alk (R:Rel cfg x N s a w):∀ {Xs:List Operand} {is:List AB} {vs:List V},BM Xs=some is→BK cfg s is=some vs→Xs.length=vs.length∧
  ∀ (i:Nat) X v,Xs[i]? =some X→vs[i]? =some v→∃ l,RdV x s (Aa x a w) w l (a.eval X) v
 | [],is,vs,h1,h2=>by cases h1;cases h2;simp
 | X::Xs,is,vs,h1,h2=>by
  unfold BM at h1;split at h1
  · rename_i ix is' h3 h4
    cases h1;unfold BK at h2;split at h2
    · rename_i v vs' h5 h6
      cases h2;obtain⟨g1,g2⟩:=alk R h4 h6;refine⟨by simp[g1],fun i X' v' e1 e2=> ?_⟩
      cases i with
      |zero=>simp at e1 e2;subst e1;subst e2;obtain⟨l,hr,_⟩:=bb R h3 h5;exact⟨l,hr⟩
      |succ i=>simp at e1 e2;exact g2 i X' v' e1 e2
    · cases h2
  · cases h1
def C5 (x:Cx) (s:Get) (a:Act) (w:World) (args:List Value) (vs:List V):Prop:=
 args.length=vs.length∧∀ (i:Nat) v y,args[i]? =some v→vs[i]? =some y→∃ l,RdV x s (Aa x a w) w l v y
theorem C5.append {p q:List Value} {vs us:List V} (h:C5 x s a w p vs) (k:C5 x s a w q us):C5 x s a w (p++q) (vs++us):=by
 refine⟨by simp[h.1,k.1],fun i v y h1 h2=> ?_⟩
 rw[List.getElem?_append] at h1 h2;rw[h.1] at h1;split at h1
 · rename_i hlt
   rw[if_pos hlt] at h2;exact h.2 i v y h1 h2
 · rename_i hlt
   rw[if_neg hlt] at h2;exact k.2 _ v y h1 h2
theorem C5.Gz (R:Rel cfg x N s a w) {c:Array Operand} {is:List AB} {vs:List V} (h1:BM c.toList=some is) (h2:BK cfg s is=some vs):C5 x s a w (c.map a.eval).toList vs:=by
 obtain⟨g1,g2⟩:=alk R h1 h2;refine⟨by simpa using g1,fun i v y e1 e2=> ?_⟩
 rw[Array.toList_map,acf] at e1;cases hX:c.toList[i]? with
 |none=>rw[hX] at e1;cases e1
 |some X=>rw[hX] at e1;cases e1;exact g2 i X y hX e2
theorem om (hM:Wc P cfg) (R:Rel cfg x N s a w) {o:Oper} {own0:Bool} {io:IOp} (AX:cOp P own0 o.op=some io) (hcall:BE io=true) {own:Bool} {f:FuncId} {vs:List V} (ht:target cfg s io=some (own,f,vs)):
  ∃ args:List Value,(execOp a.eval o).run P w=(callFunc f args.toArray).run P w∧C5 x s a w args vs:=by
 cases ho:o.op with
 | call c=>
  rw[ho] at AX;simp only[cOp] at AX;split at AX
  · rename_i is his
    cases hcal:c.callee with
    | value X=>
      rw[hcal] at AX;have hgen:∀ p,io= .CD own0 p is→Ah X=some p→∃ args:List Value,(execOp a.eval o).run P w=(callFunc f args.toArray).run P w∧C5 x s a w args vs:=by
       rintro p rfl hX
       simp only[target] at ht;split at ht
       · rename_i f' vs' hv hvs
         cases ht;refine⟨_,?_,C5.Gz R his hvs⟩;have e:=(B9 R hX hv).kU;rw[Array.toArray_toList];simp[execOp,ho,resolve,hcal,e,Deferred.ofValue,invoke]
       · rename_i f' va vb vs' hv hvs
         split at ht
         case isFalse=>cases ht
         cases ht;obtain⟨l,hr,_⟩:=bb R hX hv;generalize BD:a.eval X=v at hr;cases hr with
         |clo _ _ ua ub _ _ hl A6 h h'=>
         refine⟨ua++(c.args.map a.eval).toList++ub,?_,?_⟩
         · have e2:(ua++(c.args.map a.eval).toList++ub).toArray=ua.toArray++c.args.map a.eval++ub.toArray:=by apply Array.ext';simp
           rw[e2];simp[execOp,ho,resolve,hcal,BD,Deferred.ofValue,invoke]
         · exact(C5.append ⟨hl,fun i v y h1 h2=>⟨_,h i v y h1 h2⟩⟩ (C5.Gz R his hvs)).append ⟨A6,fun i v y h1 h2=>⟨_,h' i v y h1 h2⟩⟩
       · cases ht
      cases X with
      | func f0=>
       cases AX;simp only[target,abz] at ht;obtain⟨vs',hvs,he⟩:=ht;cases he;refine⟨_,?_,C5.Gz R his hvs⟩;rw[Array.toArray_toList];have e:a.eval (.func f)= .func (.func f) #[] #[]:=rfl;simp[execOp,ho,resolve,hcal,e,Deferred.ofValue,invoke]
      | tmp t=>
       simp only[abz] at AX;obtain⟨p,hX,rfl⟩:=AX;exact hgen p rfl hX
      | const v=>
       simp only[abz] at AX;obtain⟨p,hX,rfl⟩:=AX;exact hgen p rfl hX
      | global g=>
       simp only[abz] at AX;obtain⟨p,hX,rfl⟩:=AX;exact hgen p rfl hX
    | invoke r m=>
      rw[hcal] at AX;cases AX
    | builtin b=>
      rw[hcal] at AX;have Aw:db P b is c.argTypes.toList=some io:=AX;exfalso;unfold db at Aw
      repeat' split at Aw
      all_goals first| (cases Aw;done)| (cases Aw;simp[BE] at hcall)
  · cases AX
 | makeFunc f0 A B=>
  exfalso;rw[ho] at AX;cases f0 with
  | func f1=>
    simp only[cOp] at AX;split at AX
    · cases AX;simp[BE] at hcall
    · cases AX
  |_=>simp[cOp] at AX
 | _=>
  exfalso;rw[ho] at AX;simp only[cOp] at AX
  repeat' split at AX
  all_goals first| (cases AX;done)| (cases AX;simp[BE] at hcall;done)| (simp only[abz] at AX;obtain⟨_,_,rfl⟩:=AX;simp[BE] at hcall)
end
end Go.Ev
namespace Go.Ev
open Go
def Cx.Dl (x:Cx) (sh:Bool) (gb:Option Nat):Cx:={x with ow:=fun b=>if gb=some b then some .res else(x.pure sh).ow b}
def Cx.Db (x x':Cx) (n:Nat) (gb:Option Nat) (res:Option Own):Cx:={x with ow:=fun b=>if b<n∧gb≠some b then x.ow b else match x'.ow b with
 |none=>none
 |some .res=>res
 |some _=>some .outer}
theorem gu {x:Cx} {sh:Bool} {gb:Option Nat} {b:Nat} (h:gb≠some b):(x.Dl sh gb).ow b=(x.pure sh).ow b:=by simp[Cx.Dl,h]
theorem T6 {x:Cx} {sh:Bool} {b:Nat}:(x.Dl sh (some b)).ow b=some .res:=by simp[Cx.Dl]
section
variable {P:Program} {cfg:Cfg} {x:Cx} {N dep:Nat} {s:Get} {a:Act} {w:World}
theorem lg {sh:Bool} {gb:Option Nat} (hgb:∀ b,gb=some b→x.ow b=some .res) {b:Nat} (h:x.ow b=none):(x.Dl sh gb).ow b=none:=by
 rw[gu (fun e=>by rw[hgb b e] at h;cases h)]
 exact j3 h
theorem Rel.P6 (R:Rel cfg x N s a w) (sh:Bool) {gb:Option Nat} (hgb:∀ b,gb=some b→x.ow b=some .res):Rel cfg (x.Dl sh gb) 0 (D1 []) Ee w:=by
 refine⟨rfl,.nil rfl,fun b hb=>R.bound b (fun e=>hb (lg hgb e)),fun l v h=> ?_,fun k v h=> ?_,fun c v h=> ?_,fun n e hg=> ?_,fun b h=> ?_,fun n ob hg=>⟨lg hgb (R.CV n ob hg).1,(R.CV n ob hg).2⟩⟩
 · cases l<;>cases h
 · cases h
 · cases h
 · exact(R.C7 n e hg).mono fun b o u h1 h2=>⟨lg hgb h1,h2⟩
 · by_cases e:gb=some b
   · exact R.Bo b (.inl (hgb b e))
   · rw[gu e] at h
     rcases bu x sh b with e|e<;>rw[e] at h<;>rcases h with h|⟨_,h⟩<;>cases h
theorem Rel.Ff (R:Rel cfg x N s a w) {sh:Bool} {gb:Option Nat} (hgb:∀ b,gb=some b→x.ow b=some .res) {x':Cx} {w':World} {N':Nat} {s':Get} {a':Act} {dep':Nat} (hF:Fr dep' (x.Dl sh gb) x' w w') (R':Rel cfg x' N' s' a' w') (res:Option Own):
   Rel cfg (x.Db x' w.heap.size gb res) N s a w'∧Fr dep x (x.Db x' w.heap.size gb res) w w':=by
 have hheap:∀ b,b<w.heap.size→gb≠some b→w'.heap[b]? =w.heap[b]? :=fun b hb hg=>(hF.same b hb (by rw[gu hg];exact bu x sh b)).1
 have Ag:∀ b o u,gb≠some b→w.cell? (ad3 b o)=some u→b<w.heap.size∧w'.cell? (ad3 b o)=some u:=fun b o u hg h=>by
   have hlt:b<w.heap.size:=by simpa using World.block_lt_of_cell? _ _ h
   exact⟨hlt,by rw[Ap (hheap b hlt hg)];exact h⟩
 have how:∀ b,b<w.heap.size→gb≠some b→(x.Db x' w.heap.size gb res).ow b=x.ow b:=fun b hb hg=>by simp[Cx.Db,hb,hg]
 have hng:∀ b,x.ow b≠some .res→gb≠some b:=fun b h e=>h (hgb b e)
 refine⟨R.step [] R.size rfl rfl ?_ ?_ (fun l hl=>by simp at hl) (fun k hk=>by simp at hk) ?_ hF.room (fun l hl=>by simp at hl) (fun d k h=>⟨h,rfl⟩) ?_ ?_ ?_ (fun b h hb=>have hn:=hng b (by rcases h with h|h<;>rw[h]<;>simp);⟨how b hb hn,hheap b hb hn⟩),?_,?_,?_,hF.io,hF.room,rfl⟩
 · intro b hb
   by_cases hlt:b<w.heap.size
   · exact ac1 hlt hF.size
   · refine R'.bound b fun e=>hb ?_
     simp[Cx.Db,hlt,e]
 · intro l _ v hv
   refine⟨hv,fun u hu=> ?_⟩
   cases l with
   |slot k=>exact hu
   | cell c=>
     obtain⟨h1,_,_⟩:=R.box c v hv;exact(Ag _ _ _ (hng _ (by rw[h1];simp)) hu).2
 · intro b o u h1 h2
   have hg:=hng b (by rw[h1];simp)
   obtain⟨h3,h4⟩:=Ag b o u hg h2;exact⟨by rw[how b h3 hg];exact h1,h4⟩
 · intro l0 _ b hb
   have hlt:=R.bound b (by rw[hb];simp)
   have hg:=hng b (by rw[hb];simp)
   exact⟨by rw[how b hlt hg];exact hb,fun o u h=>(Ag b o u hg h).2⟩
 · intro c v hc
   obtain⟨h1,h2,h3⟩:=R.box c v hc;have hlt:=R.bound _ (by rw[h1];simp)
   have hg:=hng _ (by rw[h1];simp)
   exact⟨by rw[show(x.Db x' w.heap.size gb res).ad=x.ad from rfl,how _ hlt hg];exact h1,h2,by rw[show(x.Db x' w.heap.size gb res).ad=x.ad from rfl,bn (hheap _ hlt hg)];exact h3⟩
 · intro b hb
   by_cases hlt:b<w.heap.size∧gb≠some b
   · rw[how b hlt.1 hlt.2] at hb
     exact(R.Bo b hb).heap (hheap b hlt.1 hlt.2)
   · refine R'.Bo b ?_
     simp only[Cx.Db,if_neg hlt] at hb;split at hb
     · rcases hb with h|⟨_,h⟩<;>cases h
     · rename_i e;exact .inl e
     · rcases hb with h|⟨_,h⟩<;>cases h
 · exact hF.size
 · intro b hb h
   have hg:gb≠some b:=hng b (by rcases h with h|h<;>rw[h]<;>simp)
   exact⟨hheap b hb hg,how b hb hg⟩
 · intro d k _
   rfl
theorem WB (R:Rel cfg x N s a w) {v:Value} {y:V} {d:D} {sh1:Bool} (h:DG s y=some (d,sh1)) {l:Option Loc} (hr:RdV x s (Aa x a w) w l v y) {F:Nat→Prop} (h0:∀ b,AE x b→F b) (hsh:sh1=true→∀ b l,x.ow b=some (.at l)→F b):Rd F w v d:=by
 have hm:∀ b o u,AE x b→w.cell? (ad3 b o)=some u→F b∧w.cell? (ad3 b o)=some u:=fun b o u h1 h2=>⟨h0 b h1,h2⟩
 unfold DG at h;split at h
 · cases h
   exact hr.An.canon.mono hm
 · cases h
   exact hr.FF.mono hm
 · cases h
   have hsh:=hsh rfl;obtain⟨l0,b,o,cap,_,e,how,Ad,A⟩:=hr.EW;rw[e];exact(A.mono hm (fun _ _ h=>h) (fun _ _ _ h=>h)).rd (hsh b l0 how) rfl Ad
 · rename_i l off n
   split at h
   · rename_i z es hs
     cases h;have hsh:=hsh rfl;obtain⟨b,o',cap',e,how,q3,q4,A⟩:=R.EN hr hs;have hlen:((es.drop off).take n).length=n:=by simp;omega
     rw[e];exact(A.mono hm (fun _ _ h=>h) (fun _ _ _ h=>h)).rd (hsh b _ how) hlen q4
   · cases h
 · cases h
theorem alh (R:Rel cfg x N s a w) {F:Nat→Prop} (h0:∀ b,AE x b→F b):∀ {vs:List V} {ds:List D} {sh:Bool},BJ s vs=some (ds,sh)→(sh=true→∀ b l,x.ow b=some (.at l)→F b)→ds.length=vs.length∧
  ∀ (i:Nat) y d,vs[i]? =some y→ds[i]? =some d→∀ l v,RdV x s (Aa x a w) w l v y→Rd F w v d
 | [],ds,sh,h,_=>by cases h;simp
 | y::vs,ds,sh,h,hs=>by
  unfold BJ at h;split at h
  · rename_i d s1 ds' s2 h1 h2
    cases h;obtain⟨g1,g2⟩:=alh R h0 h2 (fun e=>hs (by simp[e]))
    refine⟨by simp[g1],fun i y' d' e1 e2 l v hr=> ?_⟩
    cases i with
    |zero=>simp at e1 e2;subst e1;subst e2;exact WB R h1 hr h0 (fun e=>hs (by simp[e]))
    |succ i=>exact g2 i y' d' (by simpa using e1) (by simpa using e2) l v hr
  · cases h
theorem ala:∀ {Xs:List Operand} {is:List AB} {i:Nat} {X:Operand} {ix:AB},BM Xs=some is→Ah X=some ix→BM (Xs.set i X)=some (is.set i ix)
 | [],is,i,X,ix,h,_=>by cases h;rfl
 | Y::Xs,is,i,X,ix,h,hX=>by
  unfold BM at h;split at h
  · rename_i iy is' h1 h2
    cases h;cases i with
    |zero=>simp[BM,hX,h2]
    |succ i=>simp[BM,h1,ala (i:=i) h2 hX]
  · cases h
theorem baf:∀ {Xs:List Operand} {is:List AB},BM Xs=some is→Xs.length=is.length∧∀ (i:Nat) ix,is[i]? =some ix→∃ X,Xs[i]? =some X∧Ah X=some ix
 | [],is,h=>by cases h;simp
 | Y::Xs,is,h=>by
  unfold BM at h;split at h
  · rename_i iy is' h1 h2
    cases h;obtain⟨g1,g2⟩:=baf h2;refine⟨by simp[g1],fun i ix hi=> ?_⟩
    cases i with
    |zero=>simp at hi;subst hi;exact⟨Y,rfl,h1⟩
    |succ i=>exact g2 i ix (by simpa using hi)
  · cases h
theorem bl0 (R:Rel cfg x N s a w) {X:Operand} {ix:AB} (hX:Ah X=some ix) {v:V} (hv:val cfg s ix=some v) {g:List (Loc×V)×V} (hg:B3 s ix v=some g):
   ∃ x1 gb,Rel cfg x1 N (AK s g.1) a w∧Fr dep x x1 w w∧(∀ b,gb=some b→x1.ow b=some .res)∧
     ((∃ y,g.2= .d y∧Rd (AE x1) w (a.eval X) y)∨∃ b o cap z es,g.2= .own false z es∧gb=some b∧a.eval X= .slice (some (ad3 b o)) es.length cap∧es.length≤cap∧Arr (AE x1) w b o cap z es):=by
 obtain⟨l,hr,hl⟩:=bb R hX hv;have AU:∀ {l0:Loc} {nw:Bool} {z:Nat} {es0 es:List D} {b o cap:Nat},s l0=some (.own nw z es0)→x.ow b=some (.at l0)→Arr (AE x) w b o cap z es→es.length≤cap→a.eval X= .slice (some (ad3 b o)) es.length cap→g=([(l0,.AM)],.own false z es)→
     ∃ x1 gb,Rel cfg x1 N (AK s g.1) a w∧Fr dep x x1 w w∧(∀ b,gb=some b→x1.ow b=some .res)∧
     ((∃ y,g.2= .d y∧Rd (AE x1) w (a.eval X) y)∨∃ b o cap z es,g.2= .own false z es∧gb=some b∧a.eval X= .slice (some (ad3 b o)) es.length cap∧es.length≤cap∧Arr (AE x1) w b o cap z es):=by
   rintro l0 nw z es0 es b o cap h0 how hA hc he rfl
   refine⟨x.AU b (some .res),some b,R.take h0 how,Fr.AU how _,(fun b' e=>by cases e;simp),.inr ⟨b,o,cap,z,es,rfl,rfl,he,hc,hA.mono (fun b' o' u h1 h2=>⟨?_,h2⟩) (fun _ _ h=>h) (fun _ _ _ h=>h)⟩⟩
   show(x.AU b (some .res)).ow b'=none;rw[Cx.AO];· exact h1
   intro e;rw[AE,e,how] at h1;cases h1
 unfold B3 at hg;split at hg
 · cases hg
   exact⟨x,none,R,.refl _ _ _,(fun b e=>by cases e),.inl ⟨_,rfl,hr.An⟩⟩
 · cases hg
   exact⟨x,none,R,.refl _ _ _,(fun b e=>by cases e),.inl ⟨_,rfl,hr.An.canon⟩⟩
 · rename_i k nw z es
   cases hg;obtain⟨hl1,rfl⟩:=hl k rfl;have h0:s (.slot k)=some (.own nw z es):=hv;obtain⟨b,o,cap,h1,how,Ad,hA⟩:=R.Bi h0;exact AU h0 how hA Ad (by simpa[Aa,Act.eval] using h1) rfl
 · rename_i l' off n
   split at hg
   · rename_i z es hs
     split at hg
     · rename_i hq
       cases hg;obtain⟨rfl,hn⟩:=hq;obtain⟨b,o',cap',e,how,q3,q4,A⟩:=R.EN hr hs;rw[List.drop_zero] at A;have hlen:(es.take n).length=n:=by simp;omega
       exact AU hs how A abu (by rw[e,hlen]) rfl
     · cases hg
   · cases hg
 · cases hg
theorem bc8 {AY:Orc} (hO:CL P cfg AY) (R:Rel cfg x N s a w) {o:Oper} {k:Nat} (hd:o.dst=some k) (hk:k<N) {c:Call} (ho:o.op= .call c) {f:FuncId} (hcal:c.callee= .value (.func f)) {args:List AB} (his:BM c.args.toList=some args)
   {own:Bool} {i:Nat} {u:List (Loc×V)} (hu:C8 cfg AY s o.dst own f args i=some u):D8 P cfg x N dep (AK s u) a w o:=by
 have AW:(execOp a.eval o).run P w=(callFunc f (c.args.map a.eval)).run P w:=by
   have e:a.eval (.func f)= .func (.func f) #[] #[]:=rfl;simp[execOp,ho,resolve,hcal,e,Deferred.ofValue,invoke]
 unfold C8 at hu;simp only[ab7,abz] at hu;obtain⟨ix,hix,v,hv,g,hg,vs,hvs,⟨ds,sh⟩,hds,⟨r,m⟩,hor,u',hl,rfl⟩:=hu;obtain⟨hlen,hat⟩:=baf his;obtain⟨X,hX,hcX⟩:=hat i ix hix;obtain⟨x1,gb,R1,F1,hgb,hgv⟩:=bl0 (dep:=dep) R hcX hv hg;have hset:=ala (i:=i) (X:= .const (.slice none 0 0)) (ix:= .c .AL) his rfl;obtain⟨n1,n2⟩:=alk R1 hset hvs;have hfr:∀ b,AE x1 b→AE (x1.Dl sh gb) b:=fun b h=>lg hgb h
 obtain⟨g1,g2⟩:=alh R1 (F:=AE (x1.Dl sh gb)) hfr hds (fun e b l h=>by
   show(x1.Dl sh gb).ow b=none;rw[gu (fun e'=>by rw[hgb b e'] at h;cases h)]
   simp[Cx.pure,e])
 have hn:c.args.toList.length=vs.length:=by simpa using n1
 have hE:Enters cfg (x1.Dl sh gb) ((ds.map V.d).set i g.2) [] (c.args.map a.eval) w:=by
   refine⟨R1.P6 sh hgb,by simp;simp at hn;omega,fun j v' y h1 h2=> ?_⟩
   have h1':(c.args.toList.map a.eval)[j]? =some v':=by rw[← Array.toList_map,Array.getElem?_toList];exact h1
   rw[acf] at h1';rw[List.getElem?_set] at h2;by_cases hj:i=j
   · subst hj
     rw[if_pos rfl] at h2;rw[hX] at h1';cases h1';have hy:y=g.2:=by
       split at h2
       · cases h2;rfl
       · cases h2
     subst hy;rcases hgv with⟨y,e,he⟩|⟨b,o',cap,z,es,e,rfl,he,hc,hA⟩
     · rw[e];exact RdV.d _ _ _ (he.mono fun b o u h1 h2=>⟨hfr b h1,h2⟩)
     · rw[e,he]
       exact⟨b,o',cap,rfl,T6,hc,hA.mono (fun b o u h1 h2=>⟨hfr b h1,h2⟩) (fun _ _ h=>h) (fun _ _ _ h=>h)⟩
   · rw[if_neg hj,acf] at h2
     cases hd':ds[j]? with
     |none=>rw[hd'] at h2;cases h2
     | some d=>
       rw[hd'] at h2;cases h2;have hlt:j<vs.length:=by rw[← g1];exact(ab1.1 hd').1
       cases hXj:c.args.toList[j]? with
       |none=>rw[hXj] at h1';cases h1'
       | some Xj=>
         rw[hXj] at h1';cases h1';obtain⟨l,hr⟩:=n2 j Xj _ (by rw[List.getElem?_set_ne hj];exact hXj) (ab0 hlt)
         exact RdV.d _ _ _ (g2 j _ d (ab0 hlt) hd' l _ hr)
 have hdoes:=hO f 0 _ [] r m hor _ w _ hE;have hback:∀ (x':Cx) w' res,Fr 0 (x1.Dl sh gb) x' w w'→∀ b,x'.ow b=some .res→(x1.Db x' w.heap.size gb res).ow b=res:=fun x' w' res F b hb=>by
   simp only[Cx.Db];split
   · rename_i hlt
     have h3:=(F.same b hlt.1 (by rw[gu hlt.2];exact bu x1 sh b)).2
     rw[gu hlt.2] at h3;rcases bu x1 sh b with h|h<;>rw[hb,h] at h3<;>cases h3
   · rw[hb]
 have hfree:∀ (x':Cx) w' res,Fr 0 (x1.Dl sh gb) x' w w'→sh=false→∀ b o u,AE x' b→w'.cell? (ad3 b o)=some u→AE (x1.Db x' w.heap.size gb res) b∧w'.cell? (ad3 b o)=some u:=by
   intro x' w' res F hsh b o u h1 h2;refine⟨?_,h2⟩;subst hsh;have h1':x'.ow b=none:=h1;simp only[AE,Cx.Db];split
   · rename_i hlt
     have h3:=(F.same b hlt.1 (by rw[gu hlt.2];exact bu x1 false b)).2
     rw[h1',gu hlt.2] at h3;cases hx:x1.ow b with
     |none=>rfl
     |some o=>simp[Cx.pure,hx] at h3
   · rw[h1']
 rw[bo];dsimp only at hl;unfold BC at hl;split at hl
 · rename_i y
   split at hl
   · cases hl
   · rename_i hq
     cases hl;refine hdoes.walks AW (fun v w' hex=> ?_)
     obtain⟨x',L⟩:=hex;rw[hd];obtain⟨R2,F2⟩:=R1.Ff (dep:=dep) hgb L.fr L.rel none;have hr:Rd (AE x') w' v y:=RdV.An L.res;have hr2:Rd (AE (x1.Db x' w.heap.size gb none)) w' v y:=by
       cases hsh:sh with
       |false=>exact hr.mono (hfree x' w' none L.fr hsh)
       | true=>
         rw[hsh] at hq;simp at hq;exact hr.plain hq
     exact⟨_,R2.put hk rfl (l:=none) (.d _ _ _ (by split;exact hr2;exact hr2.canon)),F1.trans F2⟩
 · rename_i nw z es
   split at hl
   · cases hl
   · rename_i hq
     cases hl;refine hdoes.walks AW (fun v w' hex=> ?_)
     obtain⟨x',L⟩:=hex;rw[hd];obtain⟨b,of,cap,rfl,q2,q3,A⟩:∃ b o cap,v= .slice (some (ad3 b o)) es.length cap∧x'.ow b=some .res∧es.length≤cap∧Arr (AE x') w' b o cap z es:=L.res
     have hA:∀ res,Arr (AE (x1.Db x' w.heap.size gb res)) w' b of cap z es:=fun res=>by
       cases hsh:sh with
       |false=>exact A.mono (hfree x' w' res L.fr hsh) (fun _ _ h=>h) (fun _ _ _ h=>h)
       | true=>
         rw[hsh] at hq;simp only[Bool.true_and,acd,acj] at hq;refine⟨A.pos,A.room,A.wid,A.cel,fun i e he j c hc=> ?_⟩
         obtain⟨v,h1,h2⟩:=A.els i e he j c hc;exact⟨v,h1,h2.plain (vl (fp hq (List.mem_of_getElem? he)) (List.mem_of_getElem? hc))⟩
     cases own
     · obtain⟨R2,F2⟩:=R1.Ff (dep:=dep) hgb L.fr L.rel none
       exact⟨_,R2.put hk rfl (l:=none) (.d _ _ _ ((hA none).rd (hback x' w' none L.fr b q2) rfl q3)),F1.trans F2⟩
     · obtain⟨R2,F2⟩:=R1.Ff (dep:=dep) hgb L.fr L.rel (some .res)
       have how:=hback x' w' (some .res) L.fr b q2;exact⟨_,R2.place hk how (hA _) rfl q3,(F1.trans F2).trans (Fr.Ea how _)⟩
 · cases hl
theorem bna {own0 own:Bool} {f:FuncId} {args:List AB} {op:Op} (Aw:cOp P own0 op=some (.call own f args)):∃ c,op= .call c∧c.callee= .value (.func f)∧BM c.args.toList=some args:=by
 cases op with
 | call c=>
  simp only[cOp] at Aw;split at Aw
  · rename_i is his
    cases hcal:c.callee with
    | value X=>
     rw[hcal] at Aw;cases X with
     | func f0=>
      simp only[Option.some.injEq,IOp.call.injEq] at Aw;obtain⟨_,rfl,rfl⟩:=Aw;exact⟨c,rfl,hcal,his⟩
     | _=>
      simp only[abz] at Aw;obtain⟨_,_,h⟩:=Aw;cases h
    | invoke r m=>
     rw[hcal] at Aw;cases Aw
    | builtin b=>
     exfalso;rw[hcal] at Aw;have hop2:db P b is c.argTypes.toList=some (.call own f args):=Aw;unfold db at hop2
     repeat' split at hop2
     all_goals (cases hop2;done)
  · cases Aw
 | makeFunc f0 A B=>
  exfalso;cases f0 with
  | func f1=>
    simp only[cOp] at Aw;split at Aw<;>cases Aw
  |_=>simp[cOp] at Aw
 | _=>
  exfalso;simp only[cOp] at Aw
  repeat' split at Aw
  all_goals first| (cases Aw;done)| (simp only[abz] at Aw;obtain⟨_,_,h⟩:=Aw;cases h)
theorem ZD {own0 own:Bool} {f:FuncId} {args:List AB} {i:Nat} {op:Op} (Aw:cOp P own0 op=some (.Cr own f args i)):False:=by
 cases op with
 | call c=>
  simp only[cOp] at Aw;split at Aw
  · rename_i is his
    cases hcal:c.callee with
    | value X=>
     rw[hcal] at Aw;cases X with
     |func f0=>cases Aw
     | _=>
      simp only[abz] at Aw;obtain⟨_,_,h⟩:=Aw;cases h
    | invoke r m=>
     rw[hcal] at Aw;cases Aw
    | builtin b=>
     rw[hcal] at Aw;have hop2:db P b is c.argTypes.toList=some (.Cr own f args i):=Aw;unfold db at hop2
     repeat' split at hop2
     all_goals (cases hop2;done)
  · cases Aw
 | makeFunc f0 A B=>
  cases f0 with
  | func f1=>
    simp only[cOp] at Aw;split at Aw<;>cases Aw
  |_=>simp[cOp] at Aw
 | _=>
  simp only[cOp] at Aw
  repeat' split at Aw
  all_goals first| (cases Aw;done)| (simp only[abz] at Aw;obtain⟨_,_,h⟩:=Aw;cases h)
theorem a9q {g:Option Nat} {X io:IOp} (h:gOp g X=io) (hn:∀ own f args i,io≠ .Cr own f args i):X=io:=by
 unfold gOp at h;split at h
 · exact absurd h.symm (hn _ _ _ _)
 · exact h
theorem gOp_g {g:Option Nat} {own0:Bool} {op:Op} {own:Bool} {f:FuncId} {args:List AB} {i:Nat} (h:gOp g ((cOp P own0 op).getD .bad)= .Cr own f args i):cOp P own0 op=some (.call own f args):=by
 cases hq:cOp P own0 op with
 | none=>
  rw[hq] at h;simp[gOp] at h
 | some X=>
  rw[hq] at h;simp only[Option.getD_some] at h;unfold gOp at h;split at h
  · cases h;rfl
  · subst h;exact(ZD hq).elim
end
