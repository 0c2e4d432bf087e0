import Derived.Test.YtkdiccgfbfbjlaaGreatFlD
import Derived.Test.YtkdiccgfbfbjlaaGreatPur
import Derived.Deep.RegionHeld3
import Derived.WalkKit
namespace Go.Proofs.YtkdiccgfbfbjlaaGreat
open Go Go.Ev Go.RowKit
structure Fd where
 v:Value
 xs:List Value
def TFd (p:Nat):TypeId:=match p % 5 with|0=>4|1=>2|2=>3|3=>65|_=>2
structure DV (base:Nat) (W:World) (g N:Nat) (fs:List Fd):Prop where
 row:W.ownsRow base 57 5 (.slice (some ⟨g,0,none⟩) N N) N (fs.map Fd.v)
 fld:∀ (p:Nat) f,fs[p]? =some f→W.ownsRow base (TFd p) 1 f.v f.xs.length f.xs
 E1:∀ (p:Nat) f,fs[p]? =some f→f.v.ownBlock=none∨f.v.ownBlock≠some g
 Fu:∀ (p q:Nat) f h,fs[p]? =some f→fs[q]? =some h→p≠q→f.v.ownBlock=none∨f.v.ownBlock≠h.v.ownBlock
def BF (g:Nat) (fs:List Fd) (b:Nat):Prop:=b=g∨∃ f∈fs,f.v.ownBlock=some b
section
variable {base:Nat} {W W':World} {g N:Nat} {fs:List Fd}
theorem DV.kept (h:DV base W g N fs) (hg:W.grownBy W' none):DV base W' g N fs:=
 ⟨h.row.kept hg (.inr (by simp[Value.ownBlock])),fun p f hp=>(h.fld p f hp).kept hg (by cases f.v.ownBlock<;>simp),h.E1,h.Fu⟩
theorem DV.lt (h:DV base W g N fs) {b:Nat} (hb:BF g fs b):base≤b∧b<W.heap.size:=by
 rcases hb with rfl|⟨f,hf,hb⟩
 · exact h.row.lt _ rfl
 · obtain⟨p,hp⟩:=acx hf
   exact(h.fld p f hp).lt b hb
theorem DV.len (h:DV base W g N fs):fs.length=N*5:=by have:=h.row.1;simpa using this
theorem DV.cell (h:DV base W g N fs) {p:Nat} {f:Fd} (hp:fs[p]? =some f):W.cell? ⟨g,p,none⟩=some f.v∧W.frozen? ⟨g,p,none⟩=false:=by
 have hlt:p<fs.length:=(ab1.1 hp).1;refine⟨?_,h.row.frozenAt p⟩;rw[h.row.cellAt p (by rw[← h.len];exact hlt),acf,hp]
 rfl
theorem DV.cell' (h:DV base W g N fs) {p:Nat} {f:Fd} (hp:fs[p]? =some f) (hg:W.grownBy W' f.v.ownBlock):W'.cell? ⟨g,p,none⟩=some f.v∧W'.frozen? ⟨g,p,none⟩=false:=by
 have hb:W'.heap[g]? =W.heap[g]? :=hg.block g (h.row.lt g rfl).2 (by rcases h.E1 p f hp with e|e<;>intro e2<;>rw[← e2] at e<;>simp at e)
 obtain⟨h1,h2⟩:=h.cell hp;exact⟨by rw[World.cell?_of_block (w:=W) hb];exact h1,by rw[World.frozen?_of_block (w:=W) hb];exact h2⟩
theorem DV.push (h:DV base W g N fs) {p:Nat} {f:Fd} {v' x:Value} (hp:fs[p]? =some f) (hrow:W'.ownsRow base (TFd p) 1 v' (f.xs.length+1) (f.xs++[x])) (hg:W.grownBy W' f.v.ownBlock)
   (hv:v'.ownBlock=f.v.ownBlock∨∃ q,v'.ownBlock=some q∧W.heap.size≤q):
   DV base (W'.setCell ⟨g,p,none⟩ v') g N (fs.set p ⟨v',f.xs++[x]⟩)∧Ci W (W'.setCell ⟨g,p,none⟩ v') (BF g fs) (BF g (fs.set p ⟨v',f.xs++[x]⟩)):=by
 have hgs:=h.row.lt g rfl;have r1:=h.row.kept hg (.inr (by rcases h.E1 p f hp with e|e<;>intro e2<;>rw[← e2] at e<;>simp[Value.ownBlock] at e))
 obtain⟨r2,g2⟩:=r1.stored p v';have hvg:v'.ownBlock=none∨v'.ownBlock≠some g:=by
   rcases hv with e|⟨q,e,hq⟩
   · rw[e];exact h.E1 p f hp
   · rw[e];exact .inr (fun e2=>by cases e2;omega)
 have hlt:p<fs.length:=(ab1.1 hp).1;have at':∀ (j:Nat) m,(fs.set p ⟨v',f.xs++[x]⟩)[j]? =some m→j≠p∧fs[j]? =some m∨j=p∧m=⟨v',f.xs++[x]⟩:=by
   intro j m hm;by_cases hj:j=p
   · subst hj
     rw[List.getElem?_set_self hlt] at hm;cases hm;exact .inr ⟨rfl,rfl⟩
   · rw[List.getElem?_set_ne (fun e=>hj e.symm)] at hm
     exact .inl ⟨hj,hm⟩
 have A3:∀ (j:Nat) m,fs[j]? =some m→∀ b,m.v.ownBlock=some b→b<W.heap.size:=fun j m hm b hb=>((h.fld j m hm).lt b hb).2
 refine⟨⟨?_,fun j m hm=> ?_,fun j m hm=> ?_,fun j k m m' hm hm' hjk=> ?_⟩,?_⟩
 · rw[List.map_set]
   exact r2
 · rcases at' j m hm with⟨hj,hm⟩|⟨rfl,rfl⟩
   · refine((h.fld j m hm).kept hg ?_).kept g2 (h.E1 j m hm)
     exact h.Fu j p m f hm hp hj
   · have:W'.ownsRow base (TFd j) 1 v' (f.xs++[x]).length (f.xs++[x]):=by rw[aci];exact hrow
     exact this.kept g2 hvg
 · rcases at' j m hm with⟨hj,hm⟩|⟨rfl,rfl⟩
   · exact h.E1 j m hm
   · exact hvg
 · rcases at' j m hm with⟨hj,hm1⟩|⟨rfl,rfl⟩
   · rcases at' k m' hm' with⟨hk,hm2⟩|⟨rfl,rfl⟩
     · exact h.Fu j k m m' hm1 hm2 hjk
     · rcases hv with e|⟨q,e,hq⟩
       · simp only[e];exact h.Fu j k m f hm1 hp hj
       · simp only[e]
         cases hb:m.v.ownBlock with
         |none=>exact .inl rfl
         |some b=>have:=A3 j m hm1 b hb;exact .inr (fun e=>by cases e;omega)
   · rcases at' k m' hm' with⟨hk,hm2⟩|⟨rfl,rfl⟩
     · rcases hv with e|⟨q,e,hq⟩
       · simp only[e];exact h.Fu j k f m' hp hm2 hjk
       · simp only[e]
         refine .inr fun e2=> ?_
         have:=A3 k m' hm2 q e2.symm;omega
     · exact absurd rfl hjk
 · have f1:Ci W W' (BF g fs) (BF g (fs.set p ⟨v',f.xs++[x]⟩)):=by
     refine .grown hg (fun b hb=> .inr ⟨f,List.mem_of_getElem? hp,hb⟩) fun b hb=> ?_
     rcases hb with rfl|⟨m,hm,hb⟩
     · exact .inl (.inl rfl)
     · obtain⟨j,hj⟩:=acx hm
       rcases at' j m hj with⟨_,hm⟩|⟨rfl,rfl⟩
       · exact .inl (.inr ⟨m,List.mem_of_getElem? hm,hb⟩)
       · rcases hv with e|⟨q,e,hq⟩
         · exact .inl (.inr ⟨f,List.mem_of_getElem? hp,e ▸ hb⟩)
         · simp only at hb
           rw[e] at hb;cases hb;exact .inr hq
   exact f1.trans (.grown g2 (fun b hb=>by cases hb;exact .inl rfl) fun b hb=> .inl hb)
end
def FR (F:Nat→Prop) (W:World) (c:Col) (k:Nat) (f:Fd):Prop:=match k with
 |0=>f.xs=c.here.map Value.bool
 |1=>f.xs=c.ints.map (Value.int .i64)
 |2=>f.xs=c.ns.map (Value.int .i64)
 |3=>f.xs.length=c.texts.length∧∀ (i:Nat) v b,f.xs[i]? =some v→c.texts[i]? =some b→Rd F W v (BA b)
 |_=>f.xs=c.lens.map (Value.int .i64)
def Cl (F:Nat→Prop) (W:World) (fs:List Fd) (cs:List Col):Prop:=∀ (q:Nat) c,cs[q]? =some c→∀ k,k<5→∃ f,fs[q*5+k]? =some f∧FR F W c k f
theorem Cl.kept {F:Nat→Prop} {W W':World} {fs:List Fd} {cs:List Col} (h:Cl F W fs cs) (hF:∀ b,F b→W'.heap[b]? =W.heap[b]?):Cl F W' fs cs:=fun q c hc k hk=>by
 obtain⟨f,h1,h2⟩:=h q c hc k hk;refine⟨f,h1,?_⟩
 match k,h2 with
 |0,h2=>exact h2
 |1,h2=>exact h2
 |2,h2=>exact h2
 |3,h2=>exact⟨h2.1,fun i v b hv hb=>(h2.2 i v b hv hb).mono fun B o u hB hu=>⟨hB,by rw[fu (hF B hB)];exact hu⟩⟩
 |k+4,h2=>exact h2
theorem Cl.push {F:Nat→Prop} {W:World} {fs:List Fd} {cs:List Col} (h:Cl F W fs cs) {q k:Nat} {c c':Col} {f':Fd} (hc:cs[q]? =some c) (hk:k<5) (hf:FR F W c' k f') (ho:∀ j,j<5→j≠k→∀ f,FR F W c j f→FR F W c' j f):
   Cl F W (fs.set (q*5+k) f') (cs.set q c'):=fun r d hd j hj=>by
 by_cases hr:r=q
 · subst hr
   have hlt:r<cs.length:=(ab1.1 hc).1;rw[List.getElem?_set_self hlt] at hd;cases hd;obtain⟨f,h1,h2⟩:=h r c hc j hj;by_cases hjk:j=k
   · subst hjk
     exact⟨f',List.getElem?_set_self (ab1.1 h1).1,hf⟩
   · exact⟨f,by rw[List.getElem?_set_ne abu];exact h1,ho j hj hjk f h2⟩
 · rw[List.getElem?_set_ne (fun e=>hr e.symm)] at hd
   obtain⟨f,h1,h2⟩:=h r d hd j hj;exact⟨f,by rw[List.getElem?_set_ne abu];exact h1,h2⟩
end Go.Proofs.YtkdiccgfbfbjlaaGreat
namespace Go.Proofs.YtkdiccgfbfbjlaaGreat
open Go Go.Ev Go.RowKit
def Cu (B:Nat→Prop) (W:World) (gl:Nat) (nd:List Nod):Prop:=∀ (i:Nat) x,nd[i]? =some x→B gl∧∃ a1 n1 q1 a2 n2 q2 i3 i4 i5 ad cap,W.cell? ⟨gl,i*9,none⟩=some (.int .i64 x.1.kind)∧W.cell? ⟨gl,i*9+1,none⟩=some (.slice a1 n1 q1)∧W.cell? ⟨gl,i*9+2,none⟩=some (.slice a2 n2 q2)∧
 W.cell? ⟨gl,i*9+3,none⟩=some (.int .i64 i3)∧W.cell? ⟨gl,i*9+4,none⟩=some (.int .i64 i4)∧W.cell? ⟨gl,i*9+5,none⟩=some (.int .i64 i5)∧W.cell? ⟨gl,i*9+6,none⟩=some (.slice ad x.2.1.length cap)∧
 ∀ (j:Nat) k,x.2.1[j]? =some k→∃ b,ad=some ⟨b,0,none⟩∧B b∧W.cell? ⟨b,j,none⟩=some (.int .i64 (k:Nat))
theorem Cu.kept {B:Nat→Prop} {W W':World} {gl:Nat} {nd:List Nod} (h:Cu B W gl nd) (hB:∀ b,B b→W'.heap[b]? =W.heap[b]?):Cu B W' gl nd:=fun i x hx=>by
 obtain⟨h0,a1,n1,q1,a2,n2,q2,i3,i4,i5,ad,cap,c0,c1,c2,c3,c4,c5,c6,hk⟩:=h i x hx;have mv:∀ b o u,B b→W.cell? ⟨b,o,none⟩=some u→W'.cell? ⟨b,o,none⟩=some u:=fun b o u hb hu=>by rw[World.cell?_of_block (w:=W) (hB b hb)];exact hu
 refine⟨h0,a1,n1,q1,a2,n2,q2,i3,i4,i5,ad,cap,mv _ _ _ h0 c0,mv _ _ _ h0 c1,mv _ _ _ h0 c2,mv _ _ _ h0 c3,mv _ _ _ h0 c4,mv _ _ _ h0 c5,mv _ _ _ h0 c6,fun j k hj=> ?_⟩
 obtain⟨b,e,hb,hc⟩:=hk j k hj;exact⟨b,e,hb,mv _ _ _ hb hc⟩
theorem Cu.of {F:Nat→Prop} {base:Nat} {W:World} {gl c:Nat} {ns:List NV} (h:CI base W (.slice (some ⟨gl,0,none⟩) ns.length c) ns) (rd:∀ n∈ns,Ce F W n.tv n.ty):Cu (FQ (.slice (some ⟨gl,0,none⟩) ns.length c) ns) W gl (ns.map NV.sig):=fun i x hx=>by
 rw[acf,abz] at hx;obtain⟨n,hn,rfl⟩:=hx;have hi:i<ns.length:=(ab1.1 hn).1;have h6:=h.six n (List.mem_of_getElem? hn);have hr:=rd n (List.mem_of_getElem? hn);have cell:∀ j,j<9→W.cell? ⟨gl,i*9+j,none⟩=n.cells[j]? :=fun j hj=>by
   rw[h.row.cellAt _ abu];exact bl7 ns i n h.six hn j hj
 obtain⟨ha,B7⟩:=hr;obtain⟨tv,kv,ty,ks,par,deep⟩:=n;simp only at h6 B7
 match tv,h6 with
 | [u0,u1,u2,u3,u4,u5],_=>
 have hk:=h.kid i _ hn;simp only at hk;have e0:u0= .int .i64 ty.kind:=(B7 0 u0 _ rfl (by rw[Au];rfl)).Ar
 obtain⟨a1,q1,e1,_⟩:=(B7 1 u1 _ rfl (by rw[Au];rfl)).EE
 obtain⟨a2,q2,e2,_⟩:=(B7 2 u2 _ rfl (by rw[Au];rfl)).EE
 have e3:=(B7 3 u3 _ rfl (by rw[Au];rfl)).Ar
 have e4:=(B7 4 u4 _ rfl (by rw[Au];rfl)).Ar
 have e5:=(B7 5 u5 _ rfl (by rw[Au];rfl)).Ar
 have c0:=(cell 0 abu).trans (congrArg some e0);have c1:=(cell 1 abu).trans (congrArg some e1);have c2:=(cell 2 abu).trans (congrArg some e2);have c3:=(cell 3 abu).trans (congrArg some e3);have c4:=(cell 4 abu).trans (congrArg some e4);have c5:=(cell 5 abu).trans (congrArg some e5);have c6:=cell 6 abu;rcases hk.2 with⟨rfl,h0⟩|⟨b,cap,cur,rfl,_,_,_,_,_,_⟩
 · refine⟨.inl rfl,_,_,_,_,_,_,_,_,_,none,0,c0,c1,c2,c3,c4,c5,by rw[c6];simp only[NV.sig,h0];rfl,fun j k hj=> ?_⟩
   have:ks=[]:=acw h0;simp only[NV.sig,this] at hj;cases hj
 · refine⟨.inl rfl,_,_,_,_,_,_,_,_,_,some ⟨b,0,none⟩,cap,c0,c1,c2,c3,c4,c5,c6,fun j k hj=>⟨b,rfl,.inr ⟨_,List.mem_of_getElem? hn,rfl⟩,?_⟩⟩
   simp only[NV.sig] at hj;have hlt:j<ks.length:=(ab1.1 hj).1;rw[hk.cellAt j abu];simp[Em,hj]
def Fj (F:Nat→Prop) (W:World) (vs:List Value) (v:Va):Prop:=vs.length=5∧∀ (i:Nat) u c,vs[i]? =some u→v.d.cells[i]? =some c→Rd F W u c
theorem Fj.kept {F:Nat→Prop} {W W':World} {vs:List Value} {v:Va} (h:Fj F W vs v) (hk:∀ b,F b→W'.heap[b]? =W.heap[b]?):Fj F W' vs v:=
 ⟨h.1,fun i u c hv hc=>(h.2 i u c hv hc).mono fun b o u hb hu=>⟨hb,(fu (hk b hb)).trans hu⟩⟩
theorem Fj.form {F:Nat→Prop} {W:World} {c0 c1 c2 c3 c4:Value} {v:Va} (h:Fj F W [c0,c1,c2,c3,c4] v):c0= .bool v.null∧c1= .int .i64 v.i∧c2= .int .i64 v.n∧Rd F W c3 (BA v.b)∧
   ∃ ad cap,c4= .slice ad v.kids.length cap∧∀ (k:Nat) x,v.kids[k]? =some x→∃ b o,ad=some (ad3 b o)∧F b∧∃ u0 u1 u2 u3 u4,
    W.cell? (ad3 b (o+k*5))=some u0∧W.cell? (ad3 b (o+k*5+1))=some u1∧W.cell? (ad3 b (o+k*5+2))=some u2∧W.cell? (ad3 b (o+k*5+3))=some u3∧W.cell? (ad3 b (o+k*5+4))=some u4∧Fj F W [u0,u1,u2,u3,u4] x:=by
 have hc:=BQ v;refine⟨(h.2 0 c0 _ rfl (by rw[hc];rfl)).Cc,(h.2 1 c1 _ rfl (by rw[hc];rfl)).Ar,(h.2 2 c2 _ rfl (by rw[hc];rfl)).Ar,h.2 3 c3 _ rfl (by rw[hc];rfl),?_⟩
 have h2:Rd F W c4 (.sl (v.kids.map Va.d)):=h.2 4 c4 _ rfl (by rw[hc];rfl)
 rcases h2.Gj (z:=5) (fun e he=>by
   cases hk:v.kids with
   |nil=>rw[hk] at he;cases he
   |cons x r=>rw[hk] at he;cases he;rw[BQ];rfl) with⟨ad,cap,e,e2⟩|⟨b,o,cap,e,Ad,_,hp⟩
 · have hk:v.kids=[]:=by simpa using e2
   exact⟨ad,cap,by rw[hk];exact e,fun k x hx=>by rw[hk] at hx;simp at hx⟩
 · refine⟨_,cap,by simpa using e,fun k x hx=> ?_⟩
   have hpk:=hp k x.d (by simp[hx])
   have at':∀ (j:Nat) c,x.d.cells[j]? =some c→∃ v,F b∧W.cell? (ad3 b (o+k*5+j))=some v∧Rd F W v c:=hpk.2
   rw[BQ] at at';obtain⟨u0,hF,m0,r0⟩:=at' 0 _ rfl;obtain⟨u1,_,m1,r1⟩:=at' 1 _ rfl;obtain⟨u2,_,m2,r2⟩:=at' 2 _ rfl;obtain⟨u3,_,m3,r3⟩:=at' 3 _ rfl;obtain⟨u4,_,m4,r4⟩:=at' 4 _ rfl;refine⟨b,o,rfl,hF,u0,u1,u2,u3,u4,by simpa using m0,m1,m2,m3,m4,rfl,fun i u c hu hd=> ?_⟩
   rw[BQ] at hd
   match i,hu,hd with
   |0,hu,hd=>cases hu;cases hd;exact r0
   |1,hu,hd=>cases hu;cases hd;exact r1
   |2,hu,hd=>cases hu;cases hd;exact r2
   |3,hu,hd=>cases hu;cases hd;exact r3
   |4,hu,hd=>cases hu;cases hd;exact r4
   |i+5,hu,hd=>simp at hu
theorem Fj.one {F:Nat→Prop} {W:World} {vs:List Value} {v:Va} (h:Fj F W vs v):∀ u∈vs,u.oneCell'=true:=fun u hu=>by
 obtain⟨i,hi⟩:=acx hu;have hl:i<5:=by have:=(ab1.1 hi).1;have:=h.1;omega
 have hc:v.d.cells[i]? =some (v.d.cells[i]'(by rw[BQ];exact hl)):=ab0 _
 refine(h.2 i u _ hi hc).DY ?_;have:∀ c∈v.d.cells,c.AP=true:=by
  intro c hc;rw[BQ] at hc;simp only[ach,adk,or_false] at hc;rcases hc with rfl|rfl|rfl|rfl|rfl<;>rfl
 exact this _ (List.getElem_mem _)
theorem dh {ops:Array Oper} {o:Oper} {a:Act} {w:World} {K:Act→World→Prop} {Q:Exit→Act→World→Prop} {E:Prop} (hgd:o.guard=none) (s x:Operand) (t:TypeId)
  (ho:o.op= .call {callee:= .builtin .append,args:= #[s,x],argTypes:= #[t,t]}) (base:Nat) (e:TypeId) (z:Value) (bytes:Nat) (ht:Tryz.prog.underlying t=some (.slice e)) (i:TypeInfo) (hi:Tryz.prog.info? e=some i) (hz:i.zero=some z) (hsize:i.size=1) (hby:i.bytes=bytes)
  (hzs:z.cells.size=1) (hb:bytes≤100) (v:Value) (n:Nat) (xs:List Value) (hs:a.eval s=v) (hown:w.ownsRow base e 1 v n xs) (ad:Addr) (c:Nat) (u:Value) (hx:a.eval x= .slice (some ad) 1 c) (hu:w.cell? (ad.add 0)=some u) (h1:u.oneCell'=true)
  (hn:n≤100000) (hbase:base≤w.heap.size)
  (h:∀ v' w',w'.ownsRow base e 1 v' (n+1) (xs++[u])→w.grownBy w' v.ownBlock→(v'.ownBlock=v.ownBlock∨∃ q,v'.ownBlock=some q∧w.heap.size≤q)→K (a.put o.dst v') w'):
  if Region.wanted o (yielded ops a.tmps)=true then Oper.wp Tryz.prog o a w K Q else E:=by
 have hw:Region.wanted o (yielded ops a.tmps)=true:=by simp[Region.wanted,hgd]
 rw[if_pos hw];obtain⟨v',w',hr,h2,h3,_,h5⟩:=run_append_own_at (P:=Tryz.prog) w base t o.type e i z 1 bytes ht hi hz hsize hby hzs abx v n xs hown ad 1 c [u] abw
  (fun j y hy=>by
   match j,hy with
   |0,hy=>cases hy;exact hu)
  (fun y hy=>by rw[acv] at hy;subst hy;exact h1) (by unfold maxLen;omega) (by have:(n+1)*bytes≤100001*100:=Nat.mul_le_mul abu hb;omega) hbase
 unfold Oper.wp execOp;simp only[ho,resolve,invoke,builtin,Sem.run_bind,Sem.run_pure,Result.andThen_ok,List.map_toArray,List.map_cons,List.map_nil,hs,hx,hr];exact h v' w' h2 h3 (h5.imp id fun h=>⟨_,h,ab5 _⟩)
theorem fz (k:Int) (W:World):Calls Tryz.prog 57 #[.int .i64 k] W fun e W'=>e= .returned (.bool (Ck k))∧W=W':=by
 have key:Ck k=(k==7||k==16||k==17||k==8):=by
  unfold Ck;cases(k==7)<;>cases(k==8)<;>cases(k==16)<;>cases(k==17)<;>rfl
 rw[key]
 go_enter Tryz.func57,Tryz.ntmps57
 go_wp2
 all_goals go_ret
 all_goals simp[*]
end Go.Proofs.YtkdiccgfbfbjlaaGreat
namespace Go.Proofs.YtkdiccgfbfbjlaaGreat
open Go Go.Ev Go.RowKit
theorem cr (w:World) (u:Value) (t:TypeId):(w.alloc (.cells #[u] t)).drew.cell? ((⟨w.heap.size,0,none⟩:Addr).add 0)=some u:=cell_one_new w u t 0 u rfl
theorem ag (w:World) (o:Obj) (row:Option Nat):w.grownBy (w.alloc o).drew row:=have h:=World.grownBy_alloc w o row;⟨h.os,h.tape,h.output,h.size,h.block⟩
theorem am {w:World} {o:Obj} {a:Addr} {u:Value} (h:w.cell? a=some u):(w.alloc o).cell? a=some u:=by
 have hb:a.block<w.heap.size:=World.block_lt_of_cell? _ _ h;rw[World.cell?_of_block (w:=w) ((World.grownBy_alloc w o none).block _ hb abw)];exact h
theorem FR.texts {F:Nat→Prop} {W w':World} {c:Col} {xs:List Value} {x v':Value} {b:Tx} {h':List Bool} (E:xs.length=c.texts.length∧∀ (i:Nat) x b,xs[i]? =some x→c.texts[i]? =some b→Rd F W x (BA b)) (hw:∀ b,F b→w'.heap[b]? =W.heap[b]?) (h:Rd F W x (BA b)):
   FR F w' {c with here:=h',texts:=c.texts++[b]} 3 ⟨v',xs++[x]⟩:=by
 have mv:∀ {u:Value} {d:D},Rd F W u d→Rd F w' u d:=fun h=>h.mono fun B o u hB hu=>⟨hB,by rw[fu (hw B hB)];exact hu⟩
 refine⟨by simp[E.1],fun i y d hy hd=> ?_⟩
 simp only at hy hd;by_cases hi:i<xs.length
 · rw[ada hi] at hy
   rw[ada (by have:=E.1;omega)] at hd
   exact mv (E.2 i y d hy hd)
 · have hj:i=xs.length:=by
    have:=(ab1.1 hy).1;simp at this;omega
   subst hj;rw[List.getElem?_append_right (ab5 _)] at hy;rw[E.1,List.getElem?_append_right (ab5 _)] at hd;simp at hy hd;subst hy;subst hd;exact mv h
theorem Si {k:Int} (h:Ck k=true):¬ k=9∧¬ k=10∧¬ k=11∧¬ k=12:=by
 refine⟨?_,?_,?_,?_⟩<;>rintro rfl<;>cases h
theorem Xn {kd vi:Int} {kn:List Nat} {j q:Nat} (h:Ga kd vi kn j=some q):∃ ix:Nat,kn[ix]? =some q∧(kd=12→ix=j)∧(kd=11→ix=j % 2)∧(kd=13→vi=(ix:Int))∧(¬ kd=12→¬ kd=11→¬ kd=13→ix=0):=by
 unfold Ga at h;by_cases h1:kd=12
 · subst h1;exact⟨j,h,fun _=>rfl,(fun h=>by omega),(fun h=>by omega),fun h=>absurd rfl h⟩
 by_cases h2:kd=11
 · subst h2;exact⟨j % 2,h,(fun h=>by omega),fun _=>rfl,(fun h=>by omega),fun _ h=>absurd rfl h⟩
 by_cases h3:kd=13
 · subst h3
   have h:(if decide (vi<0) then none else kn[vi.toNat]?)=some q:=h
   split at h
   · cases h
   · rename_i c
     exact⟨vi.toNat,h,(fun h=>by omega),(fun h=>by omega),fun _=>by simp at c;omega,fun _ _ h=>absurd rfl h⟩
 · rw[if_neg (by simpa using h1),if_neg (by simpa using h2),if_neg (by simpa using h3)] at h
   exact⟨0,h,fun h=>absurd h h1,fun h=>absurd h h2,fun h=>absurd h h3,fun _ _ _=>rfl⟩
theorem ba8 {nd:List Nod} {kd vi:Int} {kn:List Nat} {j:Nat} {cs:List Col} {k:Va} {l:List Va} {r:List Col×Bool} (h:Dk nd kd vi kn j cs (k::l)=some r):
   ∃ q c1 b,Ga kd vi kn j=some q∧GV nd q cs k=some (c1,b)∧(b=true→Dk nd kd vi kn (j+1) c1 l=some r)∧(b=false→r=(c1,false)):=by
 rw[Dk] at h;split at h
 · cases h
 · rename_i q hq
   split at h
   · cases h
   · rename_i c1 hc;exact⟨q,c1,true,hq,hc,fun _=>h,(fun h=>by cases h)⟩
   · rename_i c1 hc;cases h;exact⟨q,c1,false,hq,hc,(fun h=>by cases h),fun _=>rfl⟩
def KB:Nat→Va→Prop
 |0,_=>True
 |m+1,v=>v.kids.length≤1000000∧∀ k∈v.kids,KB m k
theorem tfd (q k:Nat) (hk:k<5):TFd (q*5+k)=TFd k:=by
 unfold TFd;rw[show(q*5+k) % 5=k % 5 by omega]
def Col.mid (kd i:Int) (b:Tx) (m:Nat) (c:Col):Col:=
 ⟨c.here,if Ck kd||kd==10||kd==11||kd==12 then c.ints else c.ints++[i],c.ns,if Ck kd then c.texts++[b] else c.texts,if kd==10 then c.lens++[(m:Int)] else if kd==11 then c.lens++[((m / 2:Nat):Int)] else c.lens⟩
def Col.nano (kd n:Int) (c:Col):Col:={c with ns:=if kd==9 then c.ns++[n] else c.ns}
theorem Col.Xf (kd i n:Int) (b:Tx) (m:Nat) (c:Col):c.more kd i n b m=Col.nano kd n (Col.mid kd i b m {c with here:=c.here++[true]}):=rfl
def Cb (cs:List Col):Prop:=∀ c∈cs,c.ints.length≤c.here.length∧c.ns.length≤c.here.length∧c.texts.length≤c.here.length∧c.lens.length≤c.here.length
theorem Cb.set {cs:List Col} (h:Cb cs) (q:Nat) {c:Col} (hc:c.ints.length≤c.here.length∧c.ns.length≤c.here.length∧c.texts.length≤c.here.length∧c.lens.length≤c.here.length):Cb (cs.set q c):=fun d hd=>by
 rcases adh hd with hd|rfl
 · exact h d hd
 · exact hc
structure Stt (F:Nat→Prop) (base g N:Nat) (W0:World) (own0:Nat→Prop) (w:World) (fs:List Fd) (cs:List Col):Prop where
 inv:DV base w g N fs
 cl:Cl F w fs cs
 fr:Ci W0 w own0 (BF g fs)
section
variable {F:Nat→Prop} {base g N:Nat} {W0 w w1 w2:World} {own0:Nat→Prop} {fs:List Fd} {cs:List Col}
theorem Stt.start (inv:DV base w g N fs) (cl:Cl F w fs cs):Stt F base g N w (BF g fs) w fs cs:=⟨inv,cl,.refl _ _⟩
theorem Stt.kept (h:Stt F base g N W0 own0 w fs cs) (hF:∀ b,F b→b<base) (hg:w.grownBy w1 none):Stt F base g N W0 own0 w1 fs cs:=
 ⟨h.inv.kept hg,h.cl.kept fun b hb=>hg.block b (by have:=hF b hb;have:=h.inv.lt (.inl rfl);omega) abw,h.fr.trans (.grown hg abw fun b hb=> .inl hb)⟩
theorem Stt.push (h:Stt F base g N W0 own0 w fs cs) (hF:∀ b,F b→b<base) (hg1:w.grownBy w1 none) {q k:Nat} {c c':Col} {f:Fd} {v' x:Value} (hc:cs[q]? =some c) (hk:k<5) (hf:fs[q*5+k]? =some f)
  (hrow:w2.ownsRow base (TFd k) 1 v' (f.xs.length+1) (f.xs++[x])) (hg:w1.grownBy w2 f.v.ownBlock) (hv:v'.ownBlock=f.v.ownBlock∨∃ q,v'.ownBlock=some q∧w1.heap.size≤q)
  (hR:∀ w',(∀ b,F b→w'.heap[b]? =w.heap[b]?)→FR F w' c' k ⟨v',f.xs++[x]⟩) (ho:∀ w' j,j<5→j≠k→∀ f,FR F w' c j f→FR F w' c' j f):
  Stt F base g N W0 own0 (w2.setCell ⟨g,q*5+k,none⟩ v') (fs.set (q*5+k) ⟨v',f.xs++[x]⟩) (cs.set q c'):=by
 have hb:=h.inv.lt (.inl rfl);have h1:=h.kept hF hg1;obtain⟨i2,f2⟩:=h1.inv.push hf (by rw[tfd q k hk];exact hrow) hg hv
 have hblk:∀ b,F b→(w2.setCell ⟨g,q*5+k,none⟩ v').heap[b]? =w1.heap[b]? :=fun b hb=>f2.block b (by have:=hF b hb;have:=h1.inv.lt (.inl rfl);omega) fun ho=>by have:=hF b hb;have:=h1.inv.lt ho;omega
 have hblk0:∀ b,F b→(w2.setCell ⟨g,q*5+k,none⟩ v').heap[b]? =w.heap[b]? :=fun b hb'=>(hblk b hb').trans (hg1.block b (by have:=hF b hb';omega) abw)
 exact⟨i2,(h1.cl.kept hblk).push hc hk (hR _ hblk0) (ho _),h1.fr.trans f2⟩
theorem Stt.block (h:Stt F base g N W0 own0 w fs cs) {b:Nat} (hb:b<W0.heap.size) (ho:¬ own0 b):w.heap[b]? =W0.heap[b]? :=h.fr.block b hb ho
theorem Stt.cell (h:Stt F base g N W0 own0 w fs cs) {b o:Nat} {u:Value} (ho:¬ own0 b) (hc:W0.cell? ⟨b,o,none⟩=some u):w.cell? ⟨b,o,none⟩=some u:=by
 rw[World.cell?_of_block (w:=W0) (h.block (World.block_lt_of_cell? _ _ hc) ho)];exact hc
theorem Stt.field (h:Stt F base g N W0 own0 w fs cs) {q k:Nat} {c:Col} (hc:cs[q]? =some c) (hk:k<5):
   ∃ f a cp,fs[q*5+k]? =some f∧FR F w c k f∧f.v= .slice a f.xs.length cp∧w.ownsRow base (TFd k) 1 (.slice a f.xs.length cp) f.xs.length f.xs∧w.cell? ⟨g,q*5+k,none⟩=some (.slice a f.xs.length cp)∧w.frozen? ⟨g,q*5+k,none⟩=false:=by
 obtain⟨f,hf,hR⟩:=h.cl q c hc k hk;have own:=h.inv.fld _ _ hf;rw[tfd q k hk] at own;obtain⟨a,cp,e⟩:∃ a cp,f.v= .slice a f.xs.length cp:=by
   rcases own.2 with⟨e,h0⟩|⟨g',cap',cur',e,_⟩
   · exact⟨none,0,by rw[e,h0]⟩
   · exact⟨_,_,e⟩
 obtain⟨h1,h2⟩:=h.inv.cell hf;refine⟨f,a,cp,hf,hR,e,?_,?_,h2⟩
 · rw[← e];exact own
 · rw[h1,e]
theorem Stt.grown (h:Stt F base g N W0 own0 w fs cs) {q k:Nat} {f:Fd} {a:Option Addr} {n cp:Nat} (hf:fs[q*5+k]? =some f) (e:f.v= .slice a n cp) (hg1:w.grownBy w1 none) (hg:w1.grownBy w2 (Value.slice a n cp).ownBlock):
  w2.cell? ⟨g,q*5+k,none⟩=some (.slice a n cp)∧w2.frozen? ⟨g,q*5+k,none⟩=false∧∀ b o u,¬ BF g fs b→w.cell? ⟨b,o,none⟩=some u→w2.cell? ⟨b,o,none⟩=some u:=by
 rw[← e] at hg ⊢;have hg1':w.grownBy w1 f.v.ownBlock:=⟨hg1.os,hg1.tape,hg1.output,hg1.size,fun k hk _=>hg1.block k hk abw⟩
 have hall:=hg1'.trans hg;obtain⟨h1,h2⟩:=h.inv.cell' hf hall;refine⟨h1,h2,fun b o u hb hu=> ?_⟩
 have hlt:b<w.heap.size:=World.block_lt_of_cell? _ _ hu;rw[World.cell?_of_block (w:=w) (hall.block b hlt fun e2=>hb (.inr ⟨f,List.mem_of_getElem? hf,e2.symm⟩))]
 exact hu
end
structure WZ (F:Nat→Prop) (base g N:Nat) (W5:World) (own5:Nat→Prop) (nd:List Nod) (kd vi:Int) (kn:List Nat) (ks:List Va) (r:List Col×Bool) (w:World) (fs:List Fd) (cs:List Col) (k:Nat):Prop where
 st:Stt F base g N W5 own5 w fs cs
 cb:Cb cs
 len:cs.length=N
 rest:Dk nd kd vi kn k cs (ks.drop k)=some r
