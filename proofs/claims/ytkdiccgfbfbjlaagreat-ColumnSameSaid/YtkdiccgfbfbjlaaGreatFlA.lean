import Derived.Test.YtkdiccgfbfbjlaaGreatL10
import Derived.Test.YtkdiccgfbfbjlaaGreatChecked
import Derived.Maps.AppendAt
import Derived.OwnWalk
import Derived.Laws.AppendOwn
import Derived.Laws.OwnMore
namespace Go.Proofs.YtkdiccgfbfbjlaaGreat
open Go Go.Ev Go.RowKit
structure NV where
 tv:List Value
 kv:Value
 ty:Ty
 ks:List Nat
 par:Int
 deep:Int
def NV.cells (n:NV):List Value:=n.tv++[n.kv,.int .i64 n.par,.int .i64 n.deep]
def Em (ks:List Nat):List Value:=ks.map fun(k:Nat)=>Value.int .i64 (k:Int)
abbrev TN:TypeId:=64
abbrev TI:TypeId:=3
structure CI (base:Nat) (W:World) (l:Value) (ns:List NV):Prop where
 row:W.ownsRow base TN 9 l ns.length (ns.flatMap NV.cells)
 six:∀ n∈ns,n.tv.length=6
 kid:∀ (i:Nat) n,ns[i]? =some n→W.ownsRow base TI 1 n.kv n.ks.length (Em n.ks)
 E1:∀ (i:Nat) n,ns[i]? =some n→n.kv.ownBlock=none∨n.kv.ownBlock≠l.ownBlock
 Fu:∀ (i j:Nat) n m,ns[i]? =some n→ns[j]? =some m→i≠j→n.kv.ownBlock=none∨n.kv.ownBlock≠m.kv.ownBlock
def FQ (l:Value) (ns:List NV) (b:Nat):Prop:=l.ownBlock=some b∨∃ n∈ns,n.kv.ownBlock=some b
theorem CI.nil (base:Nat) (W:World):CI base W (.slice none 0 0) []:=
 ⟨World.ownsRow_nil _ _ _ _,by simp,by simp,by simp,by simp⟩
theorem CI.kept {base:Nat} {W W':World} {l:Value} {ns:List NV} (h:CI base W l ns) (hg:W.grownBy W' none):CI base W' l ns:=
 ⟨h.row.kept hg (by cases l.ownBlock<;>simp),h.six,fun i n hn=>(h.kid i n hn).kept hg (by cases n.kv.ownBlock<;>simp),h.E1,h.Fu⟩
theorem CI.lt {base:Nat} {W:World} {l:Value} {ns:List NV} (h:CI base W l ns) {b:Nat} (hb:FQ l ns b):base≤b∧b<W.heap.size:=by
 rcases hb with hb|⟨n,hn,hb⟩
 · exact h.row.lt b hb
 · obtain⟨i,hi⟩:=acx hn
   exact(h.kid i n hi).lt b hb
theorem CI.push {base:Nat} {W W':World} {l l':Value} {ns:List NV} (h:CI base W l ns) (n:NV) (h6:n.tv.length=6) (hk:n.kv= .slice none 0 0) (P2:n.ks=[])
   (hrow:W'.ownsRow base TN 9 l' (ns.length+1) (ns.flatMap NV.cells++n.cells)) (hg:W.grownBy W' l.ownBlock) (hl:l'.ownBlock=l.ownBlock∨∃ g,l'.ownBlock=some g∧W.heap.size≤g):CI base W' l' (ns++[n]):=by
 have hn0:n.kv.ownBlock=none:=by rw[hk];rfl
 have at':∀ (i:Nat) m,(ns++[n])[i]? =some m→ns[i]? =some m∨i=ns.length∧m=n:=by
   intro i m hm;by_cases hi:i<ns.length
   · rw[ada hi] at hm;exact .inl hm
   · rw[List.getElem?_append_right abu] at hm
     have:i-ns.length=0:=by
       rcases Nat.eq_zero_or_pos (i-ns.length) with e|e
       · exact e
       · rw[adz (by simp;omega)] at hm;cases hm
     rw[this] at hm;cases hm;exact .inr ⟨by omega,rfl⟩
 refine⟨by rw[aci,List.flatMap_append];simpa using hrow,fun m hm=> ?_,fun i m hm=> ?_,fun i m hm=> ?_,fun i j m m' hm hm' hij=> ?_⟩
 · rcases acz.1 hm with hm|hm
   · exact h.six m hm
   · rw[acv] at hm;rw[hm];exact h6
 · rcases at' i m hm with hm|⟨_,rfl⟩
   · exact(h.kid i m hm).kept hg (h.E1 i m hm)
   · rw[hk,P2];exact World.ownsRow_nil W' base TI 1
 · rcases at' i m hm with hm|⟨_,rfl⟩
   · rcases h.E1 i m hm with e|e
     · exact .inl e
     · rcases hl with hl|⟨g,hl,hge⟩
       · rw[hl];exact .inr e
       · rw[hl]
         cases hb:m.kv.ownBlock with
         |none=>exact .inl rfl
         | some b=>
          have:=((h.kid i m hm).lt b hb).2;exact .inr (fun e=>by cases e;omega)
   · exact .inl hn0
 · rcases at' i m hm with hm|⟨hi,rfl⟩
   · rcases at' j m' hm' with hm'|⟨_,rfl⟩
     · exact h.Fu i j m m' hm hm' hij
     · rw[hn0]
       cases hb:m.kv.ownBlock with
       |none=>exact .inl rfl
       |some b=>exact .inr abw
   · exact .inl hn0
theorem a9u:∀ (ns:List NV) (i:Nat) (n:NV) (v:Value) (ks:List Nat),(∀ m∈ns,m.tv.length=6)→ns[i]? =some n→(ns.flatMap NV.cells).set (i*9+6) v=(ns.set i {n with kv:=v,ks:=ks}).flatMap NV.cells
 | [],i,n,v,ks,_,h=>by simp at h
 | m::ns,0,n,v,ks,h6,h=>by
  have e:m=n:=by simpa using h
  subst e;have:=h6 m abw;obtain⟨tv,kv,ty,ks',par,deep⟩:=m;simp only at this
  match tv,this with
  | [a,b,c,d,e,f],_=>simp[NV.cells,List.flatMap_cons]
 | m::ns,i+1,n,v,ks,h6,h=>by
  have h9:m.cells.length=9:=by have:=h6 m abw;simp[NV.cells,this]
  rw[List.flatMap_cons,List.set_append_right _ _ abu,List.set_cons_succ,List.flatMap_cons,h9,show(i+1)*9+6-9=i*9+6 by omega,a9u ns i n v ks (fun x hx=>h6 x (by simp[hx])) h]
theorem CI.Xo {base:Nat} {W W':World} {g c:Nat} {ns:List NV} {i k:Nat} {n:NV} {v':Value} (h:CI base W (.slice (some ⟨g,0,none⟩) ns.length c) ns) (hn:ns[i]? =some n)
   (hrow:W'.ownsRow base TI 1 v' (n.ks.length+1) (Em (n.ks++[k]))) (hg:W.grownBy W' n.kv.ownBlock) (hv:v'.ownBlock=n.kv.ownBlock∨∃ g,v'.ownBlock=some g∧W.heap.size≤g):
   CI base (W'.setCell ⟨g,i*9+6,none⟩ v') (.slice (some ⟨g,0,none⟩) ns.length c) (ns.set i {n with kv:=v',ks:=n.ks++[k]})∧W'.grownBy (W'.setCell ⟨g,i*9+6,none⟩ v') (some g):=by
 have gL:(Value.slice (some ⟨g,0,none⟩) ns.length c).ownBlock=some g:=rfl;have hgs:=h.row.lt g gL;have r1:=h.row.kept hg (by
   rcases h.E1 i n hn with e|e
   · rw[e];exact .inr (by rw[gL];simp)
   · exact .inr (fun e2=>e e2.symm))
 obtain⟨r2,g2⟩:=r1.stored (i*9+6) v';have hvg:v'.ownBlock=none∨v'.ownBlock≠some g:=by
   rcases hv with e|⟨q,e,hq⟩
   · rw[e];rw[← gL];exact h.E1 i n hn
   · rw[e];exact .inr (fun e2=>by cases e2;omega)
 have hi:i<ns.length:=(ab1.1 hn).1;have at':∀ (j:Nat) m,(ns.set i {n with kv:=v',ks:=n.ks++[k]})[j]? =some m→j≠i∧ns[j]? =some m∨j=i∧m={n with kv:=v',ks:=n.ks++[k]}:=by
   intro j m hm;by_cases hj:j=i
   · subst hj
     rw[List.getElem?_set_self hi] at hm;cases hm;exact .inr ⟨rfl,rfl⟩
   · rw[List.getElem?_set_ne (fun e=>hj e.symm)] at hm
     exact .inl ⟨hj,hm⟩
 have A3:∀ (j:Nat) m,ns[j]? =some m→∀ b,m.kv.ownBlock=some b→b<W.heap.size:=fun j m hm b hb=>((h.kid j m hm).lt b hb).2
 refine⟨⟨?_,fun m hm=> ?_,fun j m hm=> ?_,fun j m hm=> ?_,fun j j' m m' hm hm' hjj=> ?_⟩,g2⟩
 · rw[List.length_set,← a9u ns i n v' (n.ks++[k]) h.six hn]
   exact r2
 · obtain⟨j,hj⟩:=acx hm
   rcases at' j m hj with⟨_,hm⟩|⟨_,rfl⟩
   · exact h.six m (List.mem_of_getElem? hm)
   · exact h.six n (List.mem_of_getElem? hn)
 · rcases at' j m hm with⟨hji,hm⟩|⟨_,rfl⟩
   · refine((h.kid j m hm).kept hg ?_).kept g2 ?_
     · exact h.Fu j i m n hm hn hji
     · rw[← gL];exact h.E1 j m hm
   · have:W'.ownsRow base TI 1 v' (n.ks++[k]).length (Em (n.ks++[k])):=by rw[aci];exact hrow
     exact this.kept g2 hvg
 · rcases at' j m hm with⟨hji,hm⟩|⟨_,rfl⟩
   · exact h.E1 j m hm
   · exact hvg
 · rcases at' j m hm with⟨hji,hm⟩|⟨hji,rfl⟩
   · rcases at' j' m' hm' with⟨hji',hm'⟩|⟨_,rfl⟩
     · exact h.Fu j j' m m' hm hm' hjj
     · rcases hv with e|⟨q,e,hq⟩
       · simp only[e];exact h.Fu j i m n hm hn hji
       · simp only[e]
         cases hb:m.kv.ownBlock with
         |none=>exact .inl rfl
         |some b=>have:=A3 j m hm b hb;exact .inr (fun e=>by cases e;omega)
   · rcases at' j' m' hm' with⟨hji',hm'⟩|⟨hj2,rfl⟩
     · rcases hv with e|⟨q,e,hq⟩
       · simp only[e];exact h.Fu i j' n m' hn hm' abu
       · simp only[e]
         refine .inr (fun e2=> ?_)
         have:=A3 j' m' hm' _ e2.symm;omega
     · omega
