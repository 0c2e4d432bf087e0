import Derived.Test.YtkdiccgfbfbjlaaGreatFlA
namespace Go.Proofs.YtkdiccgfbfbjlaaGreat
open Go Go.Ev Go.RowKit
def NV.sig (n:NV):Ty×List Nat×Int×Int:=(n.ty,n.ks,n.par,n.deep)
theorem jk (i:Nat) (parent deep:Int) (t:Ty):Bq i parent deep t=(t,Ba (i+1) t.kids,parent,deep)::bm (i+1) i (deep+1) t.kids:=by
 cases t;rw[Bq];rfl
theorem vr:∀ (l:List Ty) (i:Nat) (k:Ty),Ba i (l++[k])=Ba i l++[i+Ty.Aq l]
 | [],i,k=>by simp[Ba,Ty.Aq]
 |x::l,i,k=>by rw[List.cons_append,Ba,Ba,vr l (i+x.size) k,Ty.Aq,List.cons_append,Nat.add_assoc]
theorem s9:∀ (l:List Ty) (i parent:Nat) (deep:Int) (k:Ty),bm i parent deep (l++[k])=bm i parent deep l++Bq (i+Ty.Aq l) parent deep k
 | [],i,parent,deep,k=>by simp[bm,Ty.Aq]
 |x::l,i,parent,deep,k=>by rw[List.cons_append,bm,bm,s9 l (i+x.size) parent deep k,Ty.Aq,ac4,Nat.add_assoc]
def Ce (F:Nat→Prop) (W:World) (vs:List Value) (t:Ty):Prop:=vs.length=6∧∀ (i:Nat) v c,vs[i]? =some v→t.d.cells[i]? =some c→Rd F W v c
theorem CI.isSlice {base:Nat} {W:World} {l:Value} {ns:List NV} (h:CI base W l ns):∃ a c,l= .slice a ns.length c:=by
 rcases h.row.2 with⟨rfl,h0⟩|⟨g,cap,cur,rfl,_⟩
 · exact⟨none,0,by rw[h0]⟩
 · exact⟨_,_,rfl⟩
theorem kq (w:World) (xs:List Value) (t:TypeId) (n:Nat) (hn:w.heap.size=n):∀ j u,xs[j]? =some u→(w.alloc (.cells xs.toArray t)).cell? ((⟨n,0,none⟩:Addr).add j)=some u:=by
 subst hn;intro j u hj;cases j with
 |zero=>simpa[Addr.add] using hj
 |succ j=>simpa[Addr.add] using hj
structure Ci (W W':World) (own CN:Nat→Prop):Prop where
 size:W.heap.size≤W'.heap.size
 os:W'.os=W.os
 tape:W'.tape=W.tape
 output:W'.output=W.output
 block:∀ k,k<W.heap.size→¬ own k→W'.heap[k]? =W.heap[k]?
 CN:∀ k,CN k→own k∨W.heap.size≤k
structure Cg (F:Nat→Prop) (base:Nat) (W1:World) (l:Value) (ns:List NV) (parent deep:Int) (t:Ty) (tv:List Value) (wr:World) (v:Value) (hd:NV) (ns':List NV) (k:Nat):Prop where
 inv:CI base wr v (ns++hd::ns')
 htv:hd.tv=tv
 hty:hd.ty=t
 P2:hd.ks=Ba (ns.length+1) (t.kids.take k)
 Un:hd.par=parent
 Z9:hd.deep=deep
 sig:ns'.map NV.sig=bm (ns.length+1) ns.length (deep+1) (t.kids.take k)
 rd:∀ n∈hd::ns',Ce F wr n.tv n.ty
 fr:Ci W1 wr (FQ l ns) (FQ v (ns++hd::ns'))
theorem gc:(∀ (t:Ty) (i:Nat) (parent deep:Int),(Bq i parent deep t).length=t.size)
 | .mk k ns ks l p s,i,parent,deep=>by rw[Bq,List.length_cons,flatRs_len ks,Ty.size];omega
where flatRs_len:∀ (ks:List Ty) (i parent:Nat) (deep:Int),(bm i parent deep ks).length=Ty.Aq ks
 | [],_,_,_=>by rw[bm,Ty.Aq];rfl
 |k::r,i,parent,deep=>by rw[bm,aci,gc k,flatRs_len r,Ty.Aq]
theorem mt:∀ (l:List Ty) (k:Nat) (x:Ty),l[k]? =some x→Ty.Aq (l.take k)+x.size≤Ty.Aq l
 | [],k,x,h=>by simp at h
 |y::l,0,x,h=>by cases h;rw[List.take_zero,Ty.Aq,Ty.Aq];omega
 | y::l,k+1,x,h=>by
  have:=mt l k x (by simpa using h)
  rw[List.take_succ_cons,Ty.Aq,Ty.Aq];omega
theorem Ci.refl (W:World) (own:Nat→Prop):Ci W W own own:=⟨ab5 _,rfl,rfl,rfl,fun _ _ _=>rfl,fun _ h=> .inl h⟩
theorem Ci.grown {W W':World} {own CN:Nat→Prop} {row:Option Nat} (hg:W.grownBy W' row) (hr:∀ k,row=some k→own k) (ho:∀ k,CN k→own k∨W.heap.size≤k):Ci W W' own CN:=
 ⟨hg.size,hg.os,hg.tape,hg.output,fun k hk hno=>hg.block k hk (fun e=>hno (hr k e.symm)),ho⟩
theorem Ci.trans {W W' W'':World} {o o' o'':Nat→Prop} (h:Ci W W' o o') (h':Ci W' W'' o' o''):Ci W W'' o o'':=
 ⟨ac7 h.size h'.size,h'.os.trans h.os,h'.tape.trans h.tape,h'.output.trans h.output,
  fun k hk hno=>(h'.block k (ac1 hk h.size) (fun ho=>by rcases h.CN k ho with h1|h1<;>first|exact hno h1|omega)).trans (h.block k hk hno),
  fun k hk=>by
   have:=h.size;rcases h'.CN k hk with h1|h1
   · exact h.CN k h1
   · exact .inr abu⟩
theorem fu {w w':World} {b o:Nat} (h:w'.heap[b]? =w.heap[b]?):w'.cell? (ad3 b o)=w.cell? (ad3 b o):=by
 simp only[World.cell?,h]
theorem Ce.kept {F:Nat→Prop} {W W':World} {vs:List Value} {t:Ty} (h:Ce F W vs t) (hk:∀ b,F b→W'.heap[b]? =W.heap[b]?):Ce F W' vs t:=
 ⟨h.1,fun i v c hv hc=>(h.2 i v c hv hc).mono fun b o u hb hu=>⟨hb,(fu (hk b hb)).trans hu⟩⟩
theorem Ce.frame {F:Nat→Prop} {W W':World} {vs:List Value} {t:Ty} {own CN:Nat→Prop} {base:Nat} (h:Ce F W vs t) (hf:Ci W W' own CN) (hF:∀ b,F b→b<base) (ho:∀ b,own b→base≤b) (hb:base≤W.heap.size):Ce F W' vs t:=
 h.kept fun b hb'=>hf.block b (ac1 (hF b hb') hb) (fun h2=>by have:=ho b h2;have:=hF b hb';omega)
theorem Ce.kids {F:Nat→Prop} {W:World} {c0 c1 c2 c3 c4 c5:Value} {t:Ty} (h:Ce F W [c0,c1,c2,c3,c4,c5] t):
   ∃ ad cap,c2= .slice ad t.kids.length cap∧∀ (k:Nat) x,t.kids[k]? =some x→∃ b o,ad=some (ad3 b o)∧F b∧∃ u0 u1 u2 u3 u4 u5,
    W.cell? (ad3 b (o+k*6))=some u0∧W.cell? (ad3 b (o+k*6+1))=some u1∧W.cell? (ad3 b (o+k*6+2))=some u2∧W.cell? (ad3 b (o+k*6+3))=some u3∧W.cell? (ad3 b (o+k*6+4))=some u4∧W.cell? (ad3 b (o+k*6+5))=some u5∧
    Ce F W [u0,u1,u2,u3,u4,u5] x:=by
 have h2:Rd F W c2 (.sl (t.kids.map Ty.d)):=h.2 2 c2 _ rfl (by rw[Au];rfl)
 rcases h2.Gj (z:=6) (fun e he=>by
   cases hk:t.kids with
   |nil=>rw[hk] at he;cases he
   |cons x r=>rw[hk] at he;cases he;rw[Au];rfl) with⟨ad,cap,e,e2⟩|⟨b,o,cap,e,Ad,_,hp⟩
 · have hk:t.kids=[]:=by simpa using e2
   exact⟨ad,cap,by rw[hk];exact e,fun k x hx=>by rw[hk] at hx;simp at hx⟩
 · refine⟨_,cap,by simpa using e,fun k x hx=> ?_⟩
   have hpk:=hp k x.d (by simp[hx])
   have at':∀ (j:Nat) c,x.d.cells[j]? =some c→∃ v,F b∧W.cell? (ad3 b (o+k*6+j))=some v∧Rd F W v c:=hpk.2
   rw[Au] at at';obtain⟨u0,hF,m0,r0⟩:=at' 0 _ rfl;obtain⟨u1,_,m1,r1⟩:=at' 1 _ rfl;obtain⟨u2,_,m2,r2⟩:=at' 2 _ rfl;obtain⟨u3,_,m3,r3⟩:=at' 3 _ rfl;obtain⟨u4,_,m4,r4⟩:=at' 4 _ rfl;obtain⟨u5,_,m5,r5⟩:=at' 5 _ rfl;refine⟨b,o,rfl,hF,u0,u1,u2,u3,u4,u5,by simpa using m0,m1,m2,m3,m4,m5,rfl,fun i v c hv hc=> ?_⟩
   rw[Au] at hc
   match i,hv,hc with
   |0,hv,hc=>cases hv;cases hc;exact r0
   |1,hv,hc=>cases hv;cases hc;exact r1
   |2,hv,hc=>cases hv;cases hc;exact r2
   |3,hv,hc=>cases hv;cases hc;exact r3
   |4,hv,hc=>cases hv;cases hc;exact r4
   |5,hv,hc=>cases hv;cases hc;exact r5
   |i+6,hv,hc=>simp at hv
theorem CI.V9 {base:Nat} {W:World} {l:Value} {ns:List NV} (h:CI base W l ns) (hn:ns≠[]):∃ g c,l= .slice (some ⟨g,0,none⟩) ns.length c:=by
 rcases h.row.2 with⟨_,h0⟩|⟨g,cap,cur,rfl,_⟩
 · exact absurd (acw h0) hn
 · exact⟨_,_,rfl⟩
theorem Cg.start {F:Nat→Prop} {base:Nat} {W W1 w1:World} {l v:Value} {ns:List NV} {parent deep:Int} {t:Ty} {c0 c1 c2 c3 c4 c5:Value} (hF:∀ b,F b→b<base) (I0:CI base W l ns) (hb:base≤W.heap.size)
  (A:Ce F W [c0,c1,c2,c3,c4,c5] t) (g0:W.grownBy W1 none) (g1:W1.grownBy w1 l.ownBlock) (hrow:w1.ownsRow base TN 9 v (ns.length+1) (ns.flatMap NV.cells++[c0,c1,c2,c3,c4,c5,.slice none 0 0,.int .i64 parent,.int .i64 deep]))
  (hl:v.ownBlock=l.ownBlock∨∃ g,v.ownBlock=some g∧W1.heap.size≤g):Cg F base W1 l ns parent deep t [c0,c1,c2,c3,c4,c5] w1 v ⟨[c0,c1,c2,c3,c4,c5],.slice none 0 0,t,[],parent,deep⟩ [] 0:=by
 have I1:=I0.kept g0;have inv:=I1.push ⟨[c0,c1,c2,c3,c4,c5],.slice none 0 0,t,[],parent,deep⟩ rfl rfl rfl hrow g1 hl;have fr:Ci W1 w1 (FQ l ns) (FQ v (ns++[⟨[c0,c1,c2,c3,c4,c5],.slice none 0 0,t,[],parent,deep⟩])):=by
  refine .grown g1 (fun k hk=> .inl hk) fun k hk=> ?_
  rcases hk with hk|⟨n,hn,hk⟩
  · rcases hl with e|⟨g,e,hg⟩
    · exact .inl (.inl (e ▸ hk))
    · rw[e] at hk;cases hk;exact .inr hg
  · rcases acz.1 hn with hn|hn
    · exact .inl (.inr ⟨n,hn,hk⟩)
    · rw[acv] at hn;subst hn;cases hk
 refine⟨inv,rfl,rfl,rfl,rfl,rfl,by rw[List.take_zero,bm];rfl,fun n hn=> ?_,fr⟩
 rw[acv] at hn;subst hn;have A1:Ce F W1 [c0,c1,c2,c3,c4,c5] t:=A.kept fun b hb'=>g0.block b (ac1 (hF b hb') hb) abw
 exact A1.frame fr hF (fun b h=>(I1.lt h).1) (ac7 hb g0.size)
theorem Cg.len {F:Nat→Prop} {base:Nat} {W1 wr:World} {l v:Value} {ns:List NV} {parent deep:Int} {t:Ty} {tv:List Value} {hd:NV} {ns':List NV} {k:Nat} (h:Cg F base W1 l ns parent deep t tv wr v hd ns' k):ns'.length=Ty.Aq (t.kids.take k):=by
 rw[← gc.flatRs_len (t.kids.take k) (ns.length+1) ns.length (deep+1),← h.sig,aby]
theorem Cg.cell {F:Nat→Prop} {base:Nat} {W W1 wr:World} {l v:Value} {ns:List NV} {parent deep:Int} {t:Ty} {tv:List Value} {hd:NV} {ns':List NV} {k:Nat} (h:Cg F base W1 l ns parent deep t tv wr v hd ns' k) (I0:CI base W l ns)
  {b o:Nat} {u:Value} (hb:b<base∨W.heap.size≤b) (hc:W1.cell? (ad3 b o)=some u):wr.cell? (ad3 b o)=some u:=by
 have hlt:b<W1.heap.size:=World.block_lt_of_cell? W1 (ad3 b o) hc;rw[fu (h.fr.block b hlt fun ho=>by have:=I0.lt ho;omega)]
 exact hc
theorem Ce.one {F:Nat→Prop} {W:World} {vs:List Value} {t:Ty} (h:Ce F W vs t):∀ u∈vs,u.oneCell'=true:=by
 intro u hu;obtain⟨i,hi⟩:=acx hu;have hl:i<6:=by have:=(ab1.1 hi).1;have:=h.1;omega
 have hc:t.d.cells[i]? =some (t.d.cells[i]'(by rw[Au];exact hl)):=ab0 _
 refine(h.2 i u _ hi hc).DY ?_;have:∀ c∈t.d.cells,c.AP=true:=by
  intro c hc;rw[Au] at hc;simp only[ach,adk,or_false] at hc;rcases hc with rfl|rfl|rfl|rfl|rfl|rfl<;>rfl
 exact this _ (List.getElem_mem _)
theorem Cg.step {F:Nat→Prop} {base:Nat} {W1 wr w2 w3:World} {l v:Value} {ns:List NV} {parent deep:Int} {t x:Ty} {tv:List Value} {nd:NV} {ns' ns2:List NV} {k g2 c2 N N2:Nat} {v3:Value}
   (L:Cg F base W1 l ns parent deep t tv wr v nd ns' k) (hF:∀ b,F b→b<base) (hb:base≤wr.heap.size) (hx:t.kids[k]? =some x) (hN:(ns++nd::ns').length=N) (hN2:(ns++nd::ns'++ns2).length=N2)
   (inv2:CI base w2 (.slice (some ⟨g2,0,none⟩) N2 c2) (ns++nd::ns'++ns2)) (fr2:Ci wr w2 (FQ v (ns++nd::ns')) (FQ (.slice (some ⟨g2,0,none⟩) N2 c2) (ns++nd::ns'++ns2)))
   (sig2:ns2.map NV.sig=Bq (ns++nd::ns').length (ns.length:Int) (deep+1) x) (rd2:∀ n∈ns2,Ce F w2 n.tv n.ty)
   (hrow:w3.ownsRow base TI 1 v3 (nd.ks.length+1) (Em nd.ks++[.int .i64 (N:Int)])) (hg:w2.grownBy w3 nd.kv.ownBlock) (hv:v3.ownBlock=nd.kv.ownBlock∨∃ g,v3.ownBlock=some g∧w2.heap.size≤g):
   Cg F base W1 l ns parent deep t tv (w3.setCell ⟨g2,ns.length*9+6,none⟩ v3) (.slice (some ⟨g2,0,none⟩) N2 c2) {nd with kv:=v3,ks:=nd.ks++[N]} (ns'++ns2) (k+1):=by
 have hNk:N=ns.length+1+Ty.Aq (t.kids.take k):=by rw[← hN,← L.len];simp;omega
 have htk:t.kids.take (k+1)=t.kids.take k++[x]:=by rw[List.take_add_one,hx];rfl
 have hL:ns++nd::ns'++ns2=ns++nd::(ns'++ns2):=by simp
 rw[hL] at inv2 fr2 hN2;have hat:(ns++nd::(ns'++ns2))[ns.length]? =some nd:=by simp
 subst hN2;have hrow':w3.ownsRow base TI 1 v3 (nd.ks.length+1) (Em (nd.ks++[N])):=by
   have:Em (nd.ks++[N])=Em nd.ks++[.int .i64 (N:Int)]:=by simp[Em]
   rw[this];exact hrow
 obtain⟨inv4,g4⟩:=inv2.Xo hat hrow' hg hv;have hset:(ns++nd::(ns'++ns2)).set ns.length {nd with kv:=v3,ks:=nd.ks++[N]}=ns++{nd with kv:=v3,ks:=nd.ks++[N]}::(ns'++ns2):=by
   rw[List.set_append_right _ _ (ab5 _),Nat.sub_self,List.set_cons_zero]
 rw[hset] at inv4;have fr3:Ci w2 w3 (FQ (.slice (some ⟨g2,0,none⟩) (ns++nd::(ns'++ns2)).length c2) (ns++nd::(ns'++ns2))) (FQ (.slice (some ⟨g2,0,none⟩) (ns++nd::(ns'++ns2)).length c2) (ns++{nd with kv:=v3,ks:=nd.ks++[N]}::(ns'++ns2))):=by
   refine .grown hg (fun q hq=> .inr ⟨nd,by simp,hq⟩) fun q hq=> ?_
   rcases hq with hq|⟨n,hn,hq⟩
   · exact .inl (.inl hq)
   · rcases acz.1 hn with hn|hn
     · exact .inl (.inr ⟨n,by simp[hn],hq⟩)
     · rcases ach.1 hn with hn|hn
       · subst hn
         rcases hv with e|⟨g,e,hge⟩
         · exact .inl (.inr ⟨nd,by simp,by rw[← e];exact hq⟩)
         · have e2:some g=some q:=by rw[← e];exact hq
           cases e2;exact .inr hge
       · exact .inl (.inr ⟨n,by simp only[acz,ach];exact .inr (.inr (acz.1 hn)),hq⟩)
 have fr4:Ci w3 (w3.setCell ⟨g2,ns.length*9+6,none⟩ v3) (FQ (.slice (some ⟨g2,0,none⟩) (ns++nd::(ns'++ns2)).length c2) (ns++{nd with kv:=v3,ks:=nd.ks++[N]}::(ns'++ns2))) (FQ (.slice (some ⟨g2,0,none⟩) (ns++nd::(ns'++ns2)).length c2) (ns++{nd with kv:=v3,ks:=nd.ks++[N]}::(ns'++ns2))):=
   .grown g4 (fun q hq=> .inl hq) fun q hq=> .inl hq
 have frA:=fr2.trans (fr3.trans fr4);have rdo:∀ n∈nd::ns',Ce F (w3.setCell ⟨g2,ns.length*9+6,none⟩ v3) n.tv n.ty:=fun n hn=>(L.rd n hn).frame frA hF (fun b h=>(L.inv.lt h).1) hb
 refine⟨inv4,L.htv,L.hty,?_,L.Un,L.Z9,?_,fun n hn=> ?_,L.fr.trans frA⟩
 · show nd.ks++[N]=_
   rw[htk,vr,L.P2,hNk]
 · rw[List.map_append,L.sig,sig2,htk,s9,hN,hNk]
 · rcases ach.1 hn with rfl|hn
   · exact rdo nd abw
   · rcases acz.1 hn with hn|hn
     · exact rdo n (by simp[hn])
     · exact(rd2 n hn).frame (fr3.trans fr4) hF (fun b h=>(inv2.lt h).1) (ac7 hb fr2.size)
theorem a9v:∀ (ns:List NV) (i:Nat) (n:NV),(∀ m∈ns,m.tv.length=6)→ns[i]? =some n→(ns.flatMap NV.cells)[i*9+6]? =some n.kv
 | [],i,n,_,h=>by simp at h
 | m::ns,0,n,h6,h=>by
  have e:m=n:=by simpa using h
  subst e;have:=h6 m abw;obtain⟨tv,kv,ty,ks',par,deep⟩:=m;simp only at this
  match tv,this with
  | [a,b,c,d,e,f],_=>simp[NV.cells,List.flatMap_cons]
 | m::ns,i+1,n,h6,h=>by
  have h9:m.cells.length=9:=by have:=h6 m abw;simp[NV.cells,this]
  rw[List.flatMap_cons,List.getElem?_append_right abu,h9,show(i+1)*9+6-9=i*9+6 by omega]
  exact a9v ns i n (fun x hx=>h6 x (by simp[hx])) h
theorem CI.QX {base:Nat} {W:World} {g c N:Nat} {ns:List NV} {i:Nat} {n:NV} (h:CI base W (.slice (some ⟨g,0,none⟩) N c) ns) (hN:ns.length=N) (hn:ns[i]? =some n):W.cell? ⟨g,i*9+6,none⟩=some n.kv∧W.frozen? ⟨g,i*9+6,none⟩=false:=by
 subst hN;have hi:i<ns.length:=(ab1.1 hn).1;refine⟨?_,h.row.frozenAt _⟩;rw[h.row.cellAt _ abu];exact a9v ns i n h.six hn
theorem CI.Ug {base:Nat} {W W':World} {g c N:Nat} {ns:List NV} {i:Nat} {n:NV} (h:CI base W (.slice (some ⟨g,0,none⟩) N c) ns) (hN:ns.length=N) (hn:ns[i]? =some n) (hg:W.grownBy W' n.kv.ownBlock):W'.cell? ⟨g,i*9+6,none⟩=some n.kv∧W'.frozen? ⟨g,i*9+6,none⟩=false:=by
 have Ai:some g≠n.kv.ownBlock:=by
  rcases h.E1 i n hn with e|e
  · rw[e];simp
  · exact fun e2=>e e2.symm
 refine⟨hg.cell (h.QX hN hn).1 Ai,?_⟩;have:=h.row.kept hg (.inr Ai);subst hN;exact this.frozenAt _
theorem ss:∀ (l:List Ty) (i:Nat),(Ba i l).length=l.length
 | [],i=>rfl
 |x::l,i=>by rw[Ba,List.length_cons,ss l,List.length_cons]
theorem nj:∀ (l:List Ty),l.length≤Ty.Aq l
 | []=>by rw[Ty.Aq];exact ab5 _
 |x::l=>by have:=nj l;have:=x.size_pos;rw[Ty.Aq,List.length_cons];omega
theorem d6 {w:World} {base:Nat} {e:TypeId} {size:Nat} {v:Value} {n:Nat} {xs:List Value} (h:w.ownsRow base e size v n xs):∃ a c,v= .slice a n c:=by
 rcases h.2 with⟨rfl,h0⟩|⟨g,cap,cur,rfl,_⟩
 · exact⟨none,0,by rw[h0]⟩
 · exact⟨_,_,rfl⟩
def aar (lv l:Value):Prop:=lv=l∨l= .slice none 0 0∧∃ ad,lv= .slice (some ad) 0 0
section
variable {P:Program} (w:World)
theorem ui (base:Nat) (t ty e:TypeId) (i:TypeInfo) (z:Value) (size bytes:Nat) (ht:P.underlying t=some (.slice e)) (hi:P.info? e=some i) (hz:i.zero=some z)
   (hsize:i.size=size) (hby:i.bytes=bytes) (hzs:z.cells.size=size) (hsz:0<size)
   (lv v:Value) (hlv:aar lv v) (n:Nat) (xs:List Value) (hown:w.ownsRow base e size v n xs)
   (a:Addr) (c:Nat) (news:List Value) (hl:news.length=1*size) (hnews:∀ j u,news[j]? =some u→w.cell? (a.add j)=some u) (h1:∀ u∈news,u.oneCell'=true)
   (h63:n+1≤maxLen) (hbytes:(n+1)*bytes≤140737488355328) (hbase:base≤w.heap.size):
   ∃ v' w',(Builtin.append_ #[t,t] ty #[lv,.slice (some a) 1 c]).run P w= .ok v' w'∧w'.ownsRow base e size v' (n+1) (xs++news)∧w.grownBy w' v.ownBlock∧(v'.ownBlock=v.ownBlock∨v'.ownBlock=some w.heap.size):=by
 rcases hlv with rfl|⟨rfl,ad,rfl⟩
 · obtain⟨v',w',h2,h3,h4,_,h5⟩:=run_append_own_at (P:=P) w base t ty e i z size bytes ht hi hz hsize hby hzs hsz lv n xs hown a 1 c news hl hnews h1 h63 hbytes hbase
   exact⟨v',w',h2,h3,h4,h5⟩
 · have hn:n=0:=by
     rcases hown.2 with⟨_,h⟩|⟨_,_,_,h,_⟩
     · exact h
     · cases h
   subst hn;subst hsize;subst hby;have hx:xs=[]:=acw (by simpa using hown.1)
   subst hx;have hr:=run_append_grow (P:=P) w t ty e i z ht hi hz ad 0 0 [] abw abw a 1 c news hl hnews abu abu (growslice_fits abu hbytes);refine⟨_,_,hr,⟨by simpa using hl,.inr ⟨w.heap.size,_,_,rfl,hbase,heap_alloc_new w.drew _,grownCap_ge w (0+1) 0 e,grownCap_le_maxLen w (0+1) 0 e h63,?_,?_⟩⟩,⟨rfl,rfl,rfl,by simp,fun k hk _=>(Array.getElem?_push_lt hk).trans (acm hk).symm⟩,.inr rfl⟩
   · have hge:=grownCap_ge w (0+1) 0 e
     simp only[Array.size_append,List.size_toArray,List.length_nil,size_zeroCells,hzs,hl,← ac6];rw[Nat.zero_add,← ac6]
     congr 1
     omega
   · simp only[Array.toList_append,List.nil_append]
     rw[show(0+1)*i.size=news.length by rw[hl]]
     exact List.take_left
theorem oe {ops:Array Oper} {rest:List Oper} {o:Oper} {a:Act} {Q:Exit→Act→World→Prop} (hgd:o.guard=none) (s x:Operand) (t:TypeId)
  (ho:o.op= .call {callee:= .builtin .append,args:= #[s,x],argTypes:= #[t,t]})
  (base:Nat) (e:TypeId) (i:TypeInfo) (z:Value) (size bytes:Nat) (ht:P.underlying t=some (.slice e)) (hi:P.info? e=some i) (hz:i.zero=some z)
  (hsize:i.size=size) (hby:i.bytes=bytes) (hzs:z.cells.size=size) (hsz:0<size)
  (lv v:Value) (hlv:aar lv v) (n:Nat) (xs:List Value) (hs:a.eval s=lv) (hown:w.ownsRow base e size v n xs)
  (ad:Addr) (c:Nat) (news:List Value) (hx:a.eval x= .slice (some ad) 1 c) (hl:news.length=1*size) (hnews:∀ j u,news[j]? =some u→w.cell? (ad.add j)=some u) (h1:∀ u∈news,u.oneCell'=true)
  (h63:n+1≤maxLen) (hbytes:(n+1)*bytes≤140737488355328) (hbase:base≤w.heap.size)
  (h:∀ v' w',w'.ownsRow base e size v' (n+1) (xs++news)→w.grownBy w' v.ownBlock→(v'.ownBlock=v.ownBlock∨v'.ownBlock=some w.heap.size)→wpList P ops Q rest (a.put o.dst v') w'):
  wpList P ops Q (o::rest) a w:=by
 refine wpList_plain hgd fun K hK=> ?_
 obtain⟨v',w',hr,h2,h3,h5⟩:=ui (P:=P) w base t o.type e i z size bytes ht hi hz hsize hby hzs hsz lv v hlv n xs hown ad c news hl hnews h1 h63 hbytes hbase;unfold Oper.wp execOp;simp only[ho,resolve,invoke,builtin,Sem.run_bind,Sem.run_pure,Result.andThen_ok,List.map_toArray,List.map_cons,List.map_nil,hs,hx,hr];exact hK _ _ (h v' w' h2 h3 h5)
end
