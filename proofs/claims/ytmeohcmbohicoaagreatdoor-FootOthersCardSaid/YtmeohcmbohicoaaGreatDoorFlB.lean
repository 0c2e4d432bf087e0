import Derived.Test.YtmeohcmbohicoaaGreatDoorFlA
namespace Go.Proofs.YtmeohcmbohicoaaGreatDoor
open Go Go.Ev Go.RowKit
def NV.sig (n:NV):Ty×List Nat×Int×Int:=(n.ty,n.ks,n.par,n.deep)
theorem lg (i:Nat) (parent deep:Int) (t:Ty):flatR i parent deep t=(t,kidAt (i+1) t.kids,parent,deep)::bo (i+1) i (deep+1) t.kids:=by
 cases t;rw[flatR];rfl
theorem rq:∀ (l:List Ty) (i:Nat) (k:Ty),kidAt i (l++[k])=kidAt i l++[i+Ty.sizes l]
 | [],i,k=>by simp[kidAt,Ty.sizes]
 |x::l,i,k=>by rw[List.cons_append,kidAt,kidAt,rq l (i+x.size) k,Ty.sizes,List.cons_append,Nat.add_assoc]
theorem pp:∀ (l:List Ty) (i parent:Nat) (deep:Int) (k:Ty),bo i parent deep (l++[k])=bo i parent deep l++flatR (i+Ty.sizes l) parent deep k
 | [],i,parent,deep,k=>by simp[bo,Ty.sizes]
 |x::l,i,parent,deep,k=>by rw[List.cons_append,bo,bo,pp l (i+x.size) parent deep k,Ty.sizes,wh,Nat.add_assoc]
def TyRd (F:Nat→Prop) (W:World) (vs:List Value) (t:Ty):Prop:=vs.length=6∧∀ (i:Nat) v c,vs[i]? =some v→t.d.cells[i]? =some c→Rd F W v c
theorem NInv.isSlice {base:Nat} {W:World} {l:Value} {ns:List NV} (h:NInv base W l ns):∃ a c,l= .slice a ns.length c:=by
 rcases h.row.2 with⟨rfl,h0⟩|⟨g,cap,cur,rfl,_⟩
 · exact⟨none,0,by rw[h0]⟩
 · exact⟨_,_,rfl⟩
theorem a70 (w:World) (xs:List Value) (t:TypeId) (n:Nat) (hn:w.heap.size=n):∀ j u,xs[j]? =some u→(w.alloc (.cells xs.toArray t)).cell? ((⟨n,0,none⟩:Addr).add j)=some u:=by
 subst hn;intro j u hj;cases j with
 |zero=>simpa[Addr.add] using hj
 |succ j=>simpa[Addr.add] using hj
structure FlFr (W W':World) (own own':Nat→Prop):Prop where
 size:W.heap.size≤W'.heap.size
 os:W'.os=W.os
 tape:W'.tape=W.tape
 output:W'.output=W.output
 block:∀ k,k<W.heap.size→¬ own k→W'.heap[k]? =W.heap[k]?
 own':∀ k,own' k→own k∨W.heap.size≤k
structure FlLoop (F:Nat→Prop) (base:Nat) (W1:World) (l:Value) (ns:List NV) (parent deep:Int) (t:Ty) (tv:List Value) (wr:World) (v:Value) (hd:NV) (ns':List NV) (k:Nat):Prop where
 inv:NInv base wr v (ns++hd::ns')
 htv:hd.tv=tv
 hty:hd.ty=t
 hks:hd.ks=kidAt (ns.length+1) (t.kids.take k)
 hpar:hd.par=parent
 hdeep:hd.deep=deep
 sig:ns'.map NV.sig=bo (ns.length+1) ns.length (deep+1) (t.kids.take k)
 rd:∀ n∈hd::ns',TyRd F wr n.tv n.ty
 fr:FlFr W1 wr (OwnB l ns) (OwnB v (ns++hd::ns'))
theorem afj:(∀ (t:Ty) (i:Nat) (parent deep:Int),(flatR i parent deep t).length=t.size)
 | .mk k ns ks l p s,i,parent,deep=>by rw[flatR,List.length_cons,flatRs_len ks,Ty.size];omega
where flatRs_len:∀ (ks:List Ty) (i parent:Nat) (deep:Int),(bo i parent deep ks).length=Ty.sizes ks
 | [],_,_,_=>by rw[bo,Ty.sizes];rfl
 |k::r,i,parent,deep=>by rw[bo,v8,afj k,flatRs_len r,Ty.sizes]
theorem ki:∀ (l:List Ty) (k:Nat) (x:Ty),l[k]? =some x→Ty.sizes (l.take k)+x.size≤Ty.sizes l
 | [],k,x,h=>by simp at h
 |y::l,0,x,h=>by cases h;rw[List.take_zero,Ty.sizes,Ty.sizes];omega
 | y::l,k+1,x,h=>by
  have:=ki l k x (by simpa using h)
  rw[List.take_succ_cons,Ty.sizes,Ty.sizes];omega
theorem FlFr.refl (W:World) (own:Nat→Prop):FlFr W W own own:=⟨wa _,rfl,rfl,rfl,fun _ _ _=>rfl,fun _ h=> .inl h⟩
theorem FlFr.grown {W W':World} {own own':Nat→Prop} {row:Option Nat} (hg:W.grownBy W' row) (hr:∀ k,row=some k→own k) (ho:∀ k,own' k→own k∨W.heap.size≤k):FlFr W W' own own':=
 ⟨hg.size,hg.os,hg.tape,hg.output,fun k hk hno=>hg.block k hk (fun e=>hno (hr k e.symm)),ho⟩
theorem FlFr.trans {W W' W'':World} {o o' o'':Nat→Prop} (h:FlFr W W' o o') (h':FlFr W' W'' o' o''):FlFr W W'' o o'':=
 ⟨xo h.size h'.size,h'.os.trans h.os,h'.tape.trans h.tape,h'.output.trans h.output,
  fun k hk hno=>(h'.block k (xk hk h.size) (fun ho=>by rcases h.own' k ho with h1|h1<;>first|exact hno h1|omega)).trans (h.block k hk hno),
  fun k hk=>by
   have:=h.size;rcases h'.own' k hk with h1|h1
   · exact h.own' k h1
   · exact .inr vn⟩
theorem mr {w w':World} {b o:Nat} (h:w'.heap[b]? =w.heap[b]?):w'.cell? (ad3 b o)=w.cell? (ad3 b o):=by
 simp only[World.cell?,h]
theorem TyRd.kept {F:Nat→Prop} {W W':World} {vs:List Value} {t:Ty} (h:TyRd F W vs t) (hk:∀ b,F b→W'.heap[b]? =W.heap[b]?):TyRd F W' vs t:=
 ⟨h.1,fun i v c hv hc=>(h.2 i v c hv hc).mono fun b o u hb hu=>⟨hb,(mr (hk b hb)).trans hu⟩⟩
theorem TyRd.frame {F:Nat→Prop} {W W':World} {vs:List Value} {t:Ty} {own own':Nat→Prop} {base:Nat} (h:TyRd F W vs t) (hf:FlFr W W' own own') (hF:∀ b,F b→b<base) (ho:∀ b,own b→base≤b) (hb:base≤W.heap.size):TyRd F W' vs t:=
 h.kept fun b hb'=>hf.block b (xk (hF b hb') hb) (fun h2=>by have:=ho b h2;have:=hF b hb';omega)
theorem TyRd.kids {F:Nat→Prop} {W:World} {c0 c1 c2 c3 c4 c5:Value} {t:Ty} (h:TyRd F W [c0,c1,c2,c3,c4,c5] t):
   ∃ ad cap,c2= .slice ad t.kids.length cap∧∀ (k:Nat) x,t.kids[k]? =some x→∃ b o,ad=some (ad3 b o)∧F b∧∃ u0 u1 u2 u3 u4 u5,
    W.cell? (ad3 b (o+k*6))=some u0∧W.cell? (ad3 b (o+k*6+1))=some u1∧W.cell? (ad3 b (o+k*6+2))=some u2∧W.cell? (ad3 b (o+k*6+3))=some u3∧W.cell? (ad3 b (o+k*6+4))=some u4∧W.cell? (ad3 b (o+k*6+5))=some u5∧
    TyRd F W [u0,u1,u2,u3,u4,u5] x:=by
 have h2:Rd F W c2 (.sl (t.kids.map Ty.d)):=h.2 2 c2 _ rfl (by rw[cells_ty];rfl)
 rcases h2.sl_at (z:=6) (fun e he=>by
   cases hk:t.kids with
   |nil=>rw[hk] at he;cases he
   |cons x r=>rw[hk] at he;cases he;rw[cells_ty];rfl) with⟨ad,cap,e,e2⟩|⟨b,o,cap,e,hcap,_,hp⟩
 · have hk:t.kids=[]:=by simpa using e2
   exact⟨ad,cap,by rw[hk];exact e,fun k x hx=>by rw[hk] at hx;simp at hx⟩
 · refine⟨_,cap,by simpa using e,fun k x hx=> ?_⟩
   have hpk:=hp k x.d (by simp[hx])
   have at':∀ (j:Nat) c,x.d.cells[j]? =some c→∃ v,F b∧W.cell? (ad3 b (o+k*6+j))=some v∧Rd F W v c:=hpk.2
   rw[cells_ty] at at';obtain⟨u0,hF,m0,r0⟩:=at' 0 _ rfl;obtain⟨u1,_,m1,r1⟩:=at' 1 _ rfl;obtain⟨u2,_,m2,r2⟩:=at' 2 _ rfl;obtain⟨u3,_,m3,r3⟩:=at' 3 _ rfl;obtain⟨u4,_,m4,r4⟩:=at' 4 _ rfl;obtain⟨u5,_,m5,r5⟩:=at' 5 _ rfl;refine⟨b,o,rfl,hF,u0,u1,u2,u3,u4,u5,by simpa using m0,m1,m2,m3,m4,m5,rfl,fun i v c hv hc=> ?_⟩
   rw[cells_ty] at hc
   match i,hv,hc with
   |0,hv,hc=>cases hv;cases hc;exact r0
   |1,hv,hc=>cases hv;cases hc;exact r1
   |2,hv,hc=>cases hv;cases hc;exact r2
   |3,hv,hc=>cases hv;cases hc;exact r3
   |4,hv,hc=>cases hv;cases hc;exact r4
   |5,hv,hc=>cases hv;cases hc;exact r5
   |i+6,hv,hc=>simp at hv
theorem NInv.atRow {base:Nat} {W:World} {l:Value} {ns:List NV} (h:NInv base W l ns) (hn:ns≠[]):∃ g c,l= .slice (some ⟨g,0,none⟩) ns.length c:=by
 rcases h.row.2 with⟨_,h0⟩|⟨g,cap,cur,rfl,_⟩
 · exact absurd (xl h0) hn
 · exact⟨_,_,rfl⟩
theorem FlLoop.start {F:Nat→Prop} {base:Nat} {W W1 w1:World} {l v:Value} {ns:List NV} {parent deep:Int} {t:Ty} {c0 c1 c2 c3 c4 c5:Value} (hF:∀ b,F b→b<base) (I0:NInv base W l ns) (hb:base≤W.heap.size)
  (A:TyRd F W [c0,c1,c2,c3,c4,c5] t) (g0:W.grownBy W1 none) (g1:W1.grownBy w1 l.ownBlock) (hrow:w1.ownsRow base TN 9 v (ns.length+1) (ns.flatMap NV.cells++[c0,c1,c2,c3,c4,c5,.slice none 0 0,.int .i64 parent,.int .i64 deep]))
  (hl:v.ownBlock=l.ownBlock∨∃ g,v.ownBlock=some g∧W1.heap.size≤g):FlLoop F base W1 l ns parent deep t [c0,c1,c2,c3,c4,c5] w1 v ⟨[c0,c1,c2,c3,c4,c5],.slice none 0 0,t,[],parent,deep⟩ [] 0:=by
 have I1:=I0.kept g0;have inv:=I1.push ⟨[c0,c1,c2,c3,c4,c5],.slice none 0 0,t,[],parent,deep⟩ rfl rfl rfl hrow g1 hl;have fr:FlFr W1 w1 (OwnB l ns) (OwnB v (ns++[⟨[c0,c1,c2,c3,c4,c5],.slice none 0 0,t,[],parent,deep⟩])):=by
  refine .grown g1 (fun k hk=> .inl hk) fun k hk=> ?_
  rcases hk with hk|⟨n,hn,hk⟩
  · rcases hl with e|⟨g,e,hg⟩
    · exact .inl (.inl (e ▸ hk))
    · rw[e] at hk;cases hk;exact .inr hg
  · rcases xb.1 hn with hn|hn
    · exact .inl (.inr ⟨n,hn,hk⟩)
    · rw[xe] at hn;subst hn;cases hk
 refine⟨inv,rfl,rfl,rfl,rfl,rfl,by rw[List.take_zero,bo];rfl,fun n hn=> ?_,fr⟩
 rw[xe] at hn;subst hn;have A1:TyRd F W1 [c0,c1,c2,c3,c4,c5] t:=A.kept fun b hb'=>g0.block b (xk (hF b hb') hb) vq
 exact A1.frame fr hF (fun b h=>(I1.lt h).1) (xo hb g0.size)
theorem FlLoop.len {F:Nat→Prop} {base:Nat} {W1 wr:World} {l v:Value} {ns:List NV} {parent deep:Int} {t:Ty} {tv:List Value} {hd:NV} {ns':List NV} {k:Nat} (h:FlLoop F base W1 l ns parent deep t tv wr v hd ns' k):ns'.length=Ty.sizes (t.kids.take k):=by
 rw[← afj.flatRs_len (t.kids.take k) (ns.length+1) ns.length (deep+1),← h.sig,vu]
theorem FlLoop.cell {F:Nat→Prop} {base:Nat} {W W1 wr:World} {l v:Value} {ns:List NV} {parent deep:Int} {t:Ty} {tv:List Value} {hd:NV} {ns':List NV} {k:Nat} (h:FlLoop F base W1 l ns parent deep t tv wr v hd ns' k) (I0:NInv base W l ns)
  {b o:Nat} {u:Value} (hb:b<base∨W.heap.size≤b) (hc:W1.cell? (ad3 b o)=some u):wr.cell? (ad3 b o)=some u:=by
 have hlt:b<W1.heap.size:=World.block_lt_of_cell? W1 (ad3 b o) hc;rw[mr (h.fr.block b hlt fun ho=>by have:=I0.lt ho;omega)]
 exact hc
theorem TyRd.one {F:Nat→Prop} {W:World} {vs:List Value} {t:Ty} (h:TyRd F W vs t):∀ u∈vs,u.oneCell'=true:=by
 intro u hu;obtain⟨i,hi⟩:=xd hu;have hl:i<6:=by have:=(vw.1 hi).1;have:=h.1;omega
 have hc:t.d.cells[i]? =some (t.d.cells[i]'(by rw[cells_ty];exact hl)):=vy _
 refine(h.2 i u _ hi hc).oneCell ?_;have:∀ c∈t.d.cells,c.isCell=true:=by
  intro c hc;rw[cells_ty] at hc;simp only[wc,xx,or_false] at hc;rcases hc with rfl|rfl|rfl|rfl|rfl|rfl<;>rfl
 exact this _ (List.getElem_mem _)
theorem FlLoop.step {F:Nat→Prop} {base:Nat} {W1 wr w2 w3:World} {l v:Value} {ns:List NV} {parent deep:Int} {t x:Ty} {tv:List Value} {nd:NV} {ns' ns2:List NV} {k g2 c2 N N2:Nat} {v3:Value}
   (L:FlLoop F base W1 l ns parent deep t tv wr v nd ns' k) (hF:∀ b,F b→b<base) (hb:base≤wr.heap.size) (hx:t.kids[k]? =some x) (hN:(ns++nd::ns').length=N) (hN2:(ns++nd::ns'++ns2).length=N2)
   (inv2:NInv base w2 (.slice (some ⟨g2,0,none⟩) N2 c2) (ns++nd::ns'++ns2)) (fr2:FlFr wr w2 (OwnB v (ns++nd::ns')) (OwnB (.slice (some ⟨g2,0,none⟩) N2 c2) (ns++nd::ns'++ns2)))
   (sig2:ns2.map NV.sig=flatR (ns++nd::ns').length (ns.length:Int) (deep+1) x) (rd2:∀ n∈ns2,TyRd F w2 n.tv n.ty)
   (hrow:w3.ownsRow base TI 1 v3 (nd.ks.length+1) (kidVs nd.ks++[.int .i64 (N:Int)])) (hg:w2.grownBy w3 nd.kv.ownBlock) (hv:v3.ownBlock=nd.kv.ownBlock∨∃ g,v3.ownBlock=some g∧w2.heap.size≤g):
   FlLoop F base W1 l ns parent deep t tv (w3.setCell ⟨g2,ns.length*9+6,none⟩ v3) (.slice (some ⟨g2,0,none⟩) N2 c2) {nd with kv:=v3,ks:=nd.ks++[N]} (ns'++ns2) (k+1):=by
 have hNk:N=ns.length+1+Ty.sizes (t.kids.take k):=by rw[← hN,← L.len];simp;omega
 have htk:t.kids.take (k+1)=t.kids.take k++[x]:=by rw[List.take_add_one,hx];rfl
 have hL:ns++nd::ns'++ns2=ns++nd::(ns'++ns2):=by simp
 rw[hL] at inv2 fr2 hN2;have hat:(ns++nd::(ns'++ns2))[ns.length]? =some nd:=by simp
 subst hN2;have hrow':w3.ownsRow base TI 1 v3 (nd.ks.length+1) (kidVs (nd.ks++[N])):=by
   have:kidVs (nd.ks++[N])=kidVs nd.ks++[.int .i64 (N:Int)]:=by simp[kidVs]
   rw[this];exact hrow
 obtain⟨inv4,g4⟩:=inv2.kidMore hat hrow' hg hv;have hset:(ns++nd::(ns'++ns2)).set ns.length {nd with kv:=v3,ks:=nd.ks++[N]}=ns++{nd with kv:=v3,ks:=nd.ks++[N]}::(ns'++ns2):=by
   rw[List.set_append_right _ _ (wa _),Nat.sub_self,List.set_cons_zero]
 rw[hset] at inv4;have fr3:FlFr w2 w3 (OwnB (.slice (some ⟨g2,0,none⟩) (ns++nd::(ns'++ns2)).length c2) (ns++nd::(ns'++ns2))) (OwnB (.slice (some ⟨g2,0,none⟩) (ns++nd::(ns'++ns2)).length c2) (ns++{nd with kv:=v3,ks:=nd.ks++[N]}::(ns'++ns2))):=by
   refine .grown hg (fun q hq=> .inr ⟨nd,by simp,hq⟩) fun q hq=> ?_
   rcases hq with hq|⟨n,hn,hq⟩
   · exact .inl (.inl hq)
   · rcases xb.1 hn with hn|hn
     · exact .inl (.inr ⟨n,by simp[hn],hq⟩)
     · rcases wc.1 hn with hn|hn
       · subst hn
         rcases hv with e|⟨g,e,hge⟩
         · exact .inl (.inr ⟨nd,by simp,by rw[← e];exact hq⟩)
         · have e2:some g=some q:=by rw[← e];exact hq
           cases e2;exact .inr hge
       · exact .inl (.inr ⟨n,by simp only[xb,wc];exact .inr (.inr (xb.1 hn)),hq⟩)
 have fr4:FlFr w3 (w3.setCell ⟨g2,ns.length*9+6,none⟩ v3) (OwnB (.slice (some ⟨g2,0,none⟩) (ns++nd::(ns'++ns2)).length c2) (ns++{nd with kv:=v3,ks:=nd.ks++[N]}::(ns'++ns2))) (OwnB (.slice (some ⟨g2,0,none⟩) (ns++nd::(ns'++ns2)).length c2) (ns++{nd with kv:=v3,ks:=nd.ks++[N]}::(ns'++ns2))):=
   .grown g4 (fun q hq=> .inl hq) fun q hq=> .inl hq
 have frA:=fr2.trans (fr3.trans fr4);have rdo:∀ n∈nd::ns',TyRd F (w3.setCell ⟨g2,ns.length*9+6,none⟩ v3) n.tv n.ty:=fun n hn=>(L.rd n hn).frame frA hF (fun b h=>(L.inv.lt h).1) hb
 refine⟨inv4,L.htv,L.hty,?_,L.hpar,L.hdeep,?_,fun n hn=> ?_,L.fr.trans frA⟩
 · show nd.ks++[N]=_
   rw[htk,rq,L.hks,hNk]
 · rw[List.map_append,L.sig,sig2,htk,pp,hN,hNk]
 · rcases wc.1 hn with rfl|hn
   · exact rdo nd vq
   · rcases xb.1 hn with hn|hn
     · exact rdo n (by simp[hn])
     · exact(rd2 n hn).frame (fr3.trans fr4) hF (fun b h=>(inv2.lt h).1) (xo hb fr2.size)
theorem auv:∀ (ns:List NV) (i:Nat) (n:NV),(∀ m∈ns,m.tv.length=6)→ns[i]? =some n→(ns.flatMap NV.cells)[i*9+6]? =some n.kv
 | [],i,n,_,h=>by simp at h
 | m::ns,0,n,h6,h=>by
  have e:m=n:=by simpa using h
  subst e;have:=h6 m vq;obtain⟨tv,kv,ty,ks',par,deep⟩:=m;simp only at this
  match tv,this with
  | [a,b,c,d,e,f],_=>simp[NV.cells,List.flatMap_cons]
 | m::ns,i+1,n,h6,h=>by
  have h9:m.cells.length=9:=by have:=h6 m vq;simp[NV.cells,this]
  rw[List.flatMap_cons,List.getElem?_append_right vn,h9,show(i+1)*9+6-9=i*9+6 by omega]
  exact auv ns i n (fun x hx=>h6 x (by simp[hx])) h
theorem NInv.kidCell {base:Nat} {W:World} {g c N:Nat} {ns:List NV} {i:Nat} {n:NV} (h:NInv base W (.slice (some ⟨g,0,none⟩) N c) ns) (hN:ns.length=N) (hn:ns[i]? =some n):W.cell? ⟨g,i*9+6,none⟩=some n.kv∧W.frozen? ⟨g,i*9+6,none⟩=false:=by
 subst hN;have hi:i<ns.length:=(vw.1 hn).1;refine⟨?_,h.row.frozenAt _⟩;rw[h.row.cellAt _ vn];exact auv ns i n h.six hn
theorem NInv.kidCell' {base:Nat} {W W':World} {g c N:Nat} {ns:List NV} {i:Nat} {n:NV} (h:NInv base W (.slice (some ⟨g,0,none⟩) N c) ns) (hN:ns.length=N) (hn:ns[i]? =some n) (hg:W.grownBy W' n.kv.ownBlock):W'.cell? ⟨g,i*9+6,none⟩=some n.kv∧W'.frozen? ⟨g,i*9+6,none⟩=false:=by
 have hne:some g≠n.kv.ownBlock:=by
  rcases h.sepL i n hn with e|e
  · rw[e];simp
  · exact fun e2=>e e2.symm
 refine⟨hg.cell (h.kidCell hN hn).1 hne,?_⟩;have:=h.row.kept hg (.inr hne);subst hN;exact this.frozenAt _
theorem i9:∀ (l:List Ty) (i:Nat),(kidAt i l).length=l.length
 | [],i=>rfl
 |x::l,i=>by rw[kidAt,List.length_cons,i9 l,List.length_cons]
theorem nv:∀ (l:List Ty),l.length≤Ty.sizes l
 | []=>by rw[Ty.sizes];exact wa _
 |x::l=>by have:=nv l;have:=x.size_pos;rw[Ty.sizes,List.length_cons];omega
theorem vj {w:World} {base:Nat} {e:TypeId} {size:Nat} {v:Value} {n:Nat} {xs:List Value} (h:w.ownsRow base e size v n xs):∃ a c,v= .slice a n c:=by
 rcases h.2 with⟨rfl,h0⟩|⟨g,cap,cur,rfl,_⟩
 · exact⟨none,0,by rw[h0]⟩
 · exact⟨_,_,rfl⟩
def ql (lv l:Value):Prop:=lv=l∨l= .slice none 0 0∧∃ ad,lv= .slice (some ad) 0 0
section
variable {P:Program} (w:World)
theorem qp (base:Nat) (t ty e:TypeId) (i:TypeInfo) (z:Value) (size bytes:Nat) (ht:P.underlying t=some (.slice e)) (hi:P.info? e=some i) (hz:i.zero=some z)
   (hsize:i.size=size) (hby:i.bytes=bytes) (hzs:z.cells.size=size) (hsz:0<size)
   (lv v:Value) (hlv:ql lv v) (n:Nat) (xs:List Value) (hown:w.ownsRow base e size v n xs)
   (a:Addr) (c:Nat) (news:List Value) (hl:news.length=1*size) (hnews:∀ j u,news[j]? =some u→w.cell? (a.add j)=some u) (h1:∀ u∈news,u.oneCell'=true)
   (h63:n+1≤maxLen) (hbytes:(n+1)*bytes≤140737488355328) (hbase:base≤w.heap.size):
   ∃ v' w',(Builtin.append_ #[t,t] ty #[lv,.slice (some a) 1 c]).run P w= .ok v' w'∧w'.ownsRow base e size v' (n+1) (xs++news)∧w.grownBy w' v.ownBlock∧(v'.ownBlock=v.ownBlock∨v'.ownBlock=some w.heap.size):=by
 rcases hlv with rfl|⟨rfl,ad,rfl⟩
 · obtain⟨v',w',h2,h3,h4,_,h5⟩:=run_append_own_at (P:=P) w base t ty e i z size bytes ht hi hz hsize hby hzs hsz lv n xs hown a 1 c news hl hnews h1 h63 hbytes hbase
   exact⟨v',w',h2,h3,h4,h5⟩
 · have hn:n=0:=by
     rcases hown.2 with⟨_,h⟩|⟨_,_,_,h,_⟩
     · exact h
     · cases h
   subst hn;subst hsize;subst hby;have hx:xs=[]:=xl (by simpa using hown.1)
   subst hx;have hr:=run_append_grow (P:=P) w t ty e i z ht hi hz ad 0 0 [] vq vq a 1 c news hl hnews vn vn (growslice_fits vn hbytes);refine⟨_,_,hr,⟨by simpa using hl,.inr ⟨w.heap.size,_,_,rfl,hbase,heap_alloc_new w.drew _,grownCap_ge w (0+1) 0 e,grownCap_le_maxLen w (0+1) 0 e h63,?_,?_⟩⟩,⟨rfl,rfl,rfl,by simp,fun k hk _=>(Array.getElem?_push_lt hk).trans (w6 hk).symm⟩,.inr rfl⟩
   · have hge:=grownCap_ge w (0+1) 0 e
     simp only[Array.size_append,List.size_toArray,List.length_nil,size_zeroCells,hzs,hl,← xh];rw[Nat.zero_add,← xh]
     congr 1
     omega
   · simp only[Array.toList_append,List.nil_append]
     rw[show(0+1)*i.size=news.length by rw[hl]]
     exact List.take_left
theorem lz {ops:Array Oper} {rest:List Oper} {o:Oper} {a:Act} {Q:Exit→Act→World→Prop} (hgd:o.guard=none) (s x:Operand) (t:TypeId)
  (ho:o.op= .call {callee:= .builtin .append,args:= #[s,x],argTypes:= #[t,t]})
  (base:Nat) (e:TypeId) (i:TypeInfo) (z:Value) (size bytes:Nat) (ht:P.underlying t=some (.slice e)) (hi:P.info? e=some i) (hz:i.zero=some z)
  (hsize:i.size=size) (hby:i.bytes=bytes) (hzs:z.cells.size=size) (hsz:0<size)
  (lv v:Value) (hlv:ql lv v) (n:Nat) (xs:List Value) (hs:a.eval s=lv) (hown:w.ownsRow base e size v n xs)
  (ad:Addr) (c:Nat) (news:List Value) (hx:a.eval x= .slice (some ad) 1 c) (hl:news.length=1*size) (hnews:∀ j u,news[j]? =some u→w.cell? (ad.add j)=some u) (h1:∀ u∈news,u.oneCell'=true)
  (h63:n+1≤maxLen) (hbytes:(n+1)*bytes≤140737488355328) (hbase:base≤w.heap.size)
  (h:∀ v' w',w'.ownsRow base e size v' (n+1) (xs++news)→w.grownBy w' v.ownBlock→(v'.ownBlock=v.ownBlock∨v'.ownBlock=some w.heap.size)→wpList P ops Q rest (a.put o.dst v') w'):
  wpList P ops Q (o::rest) a w:=by
 refine wpList_plain hgd fun K hK=> ?_
 obtain⟨v',w',hr,h2,h3,h5⟩:=qp (P:=P) w base t o.type e i z size bytes ht hi hz hsize hby hzs hsz lv v hlv n xs hown ad c news hl hnews h1 h63 hbytes hbase;unfold Oper.wp execOp;simp only[ho,resolve,invoke,builtin,Sem.run_bind,Sem.run_pure,Result.andThen_ok,List.map_toArray,List.map_cons,List.map_nil,hs,hx,hr];exact hK _ _ (h v' w' h2 h3 h5)
end
