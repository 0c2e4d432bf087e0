import Derived.Test.YtmeohcmbohicoaaGreatDoorFlC
namespace Go.Proofs.YtmeohcmbohicoaaGreatDoor
open Go Go.Ev Go.RowKit
theorem uu (f:D→Option Ty):∀ (l:List Ty),(∀ t∈l,f t.d=some t)→tysOf f (l.map Ty.d)=some l
 | [],_=>rfl
 |t::l,h=>by rw[List.map_cons,tysOf,h t vq,uu f l fun x hx=>h x (by simp[hx])]
theorem tyOf_d:∀ (n:Nat) (t:Ty),t.size≤n→tyOf n t.d=some t
 |0,t,h=>by have:=t.size_pos;omega
 | n+1,t,h=>by
  have hk:tysOf (tyOf n) (t.kids.map Ty.d)=some t.kids:=uu _ _ fun x hx=>tyOf_d n x (by have:=t.size_kid hx;omega)
  rw[t.d_eq,tyOf,l9,hk];cases t;rfl
theorem uv (f:D→Option Ty) (hf:∀ d t,f d=some t→d=t.d):∀ (l:List D) (ts:List Ty),tysOf f l=some ts→l=ts.map Ty.d
 | [],ts,h=>by cases h;rfl
 | d::l,ts,h=>by
  unfold tysOf at h;split at h
  · rename_i t l' h1 h2
    cases h;rw[List.map_cons,← hf d t h1,← uv f hf l l' h2]
  · cases h
theorem ald:∀ (n:Nat) (d:D) (t:Ty),tyOf n d=some t→d=t.d
 |0,d,t,h=>by unfold tyOf at h;cases h
 | n+1,d,t,h=>by
  unfold tyOf at h;split at h
  · cases h
  · rename_i heq
    split at h
    · rename_i ns ks h1 h2
      cases h;cases heq;rw[Ty.d_eq];rw[ma h1,uv _ (ald _) _ _ h2];rfl
    · cases h
  · cases h
theorem a8v {F:Nat→Prop} {w:World} {args:Array Value} {d e f g:D} (h1:args.size=[d,e,f,g].length) (h2:∀ (i:Nat) v d',args[i]? =some v→[d,e,f,g][i]? =some d'→Rd F w v d'):∃ v u x y,args= #[v,u,x,y]∧Rd F w v d∧Rd F w u e∧Rd F w x f∧Rd F w y g:=by
 obtain⟨l⟩:=args
 match l,h1 with
 | [v,u,x,y],_=>exact⟨v,u,x,y,rfl,h2 0 v d rfl rfl,h2 1 u e rfl rfl,h2 2 x f rfl rfl,h2 3 y g rfl rfl⟩
theorem tyRd_of {F:Nat→Prop} {w:World} {v:Value} {t:Ty} (h:Rd F w v t.d):∃ c0 c1 c2 c3 c4 c5,v= .agg #[c0,c1,c2,c3,c4,c5]∧TyRd F w [c0,c1,c2,c3,c4,c5] t:=by
 have hc:=cells_ty t;rw[t.d_eq] at h;cases h with
 | agg vs cs hl hcc hr=>
  match vs,hl with
  | [c0,c1,c2,c3,c4,c5],_=>exact⟨c0,c1,c2,c3,c4,c5,rfl,rfl,fun i v c hv hd=>hr i v c hv (by rw[hc] at hd;exact hd)⟩
theorem aw4 {w:World} {base:Nat} {e:TypeId} {size:Nat} {n:Nat} {xs:List Value} {g cap:Nat} (h:w.ownsRow base e size (.slice (some ⟨g,0,none⟩) n cap) n xs):
   (∀ j,j<cap*size→(∃ u,w.cell? (ad3 g (0+j))=some u)∧w.frozen? (ad3 g (0+j))=false)∧NoFz w g∧n≤cap:=by
 rcases h.2 with⟨h',_⟩|⟨g',cap',cur,h',_,hg,hnc,_,hcs,_⟩
 · cases h'
 · cases h'
   refine⟨fun j hj=>⟨⟨cur[j]'(by omega),?_⟩,?_⟩,fun c e' lo hi hc hne=> ?_,hnc⟩
   · rw[Nat.zero_add]
     show w.cell? ⟨g,j,none⟩=_;rw[cell_of_row w g j cur e (0,0) hg,w6 vn]
   · rw[Nat.zero_add]
     exact frozen_of_row w g j cur e hg
   · rw[hg] at hc
     cases hc;exact absurd rfl hne
theorem a7h:∀ (ns:List NV) (i:Nat) (n:NV),(∀ m∈ns,m.tv.length=6)→ns[i]? =some n→∀ j,j<9→(ns.flatMap NV.cells)[i*9+j]? =n.cells[j]?
 | [],i,n,_,h,j,hj=>by simp at h
 | m::ns,0,n,h6,h,j,hj=>by
  have e:m=n:=by simpa using h
  subst e;have h9:m.cells.length=9:=by have:=h6 m vq;simp[NV.cells,this]
  rw[List.flatMap_cons,Nat.zero_mul,Nat.zero_add,xv vn]
 | m::ns,i+1,n,h6,h,j,hj=>by
  have h9:m.cells.length=9:=by have:=h6 m vq;simp[NV.cells,this]
  rw[List.flatMap_cons,List.getElem?_append_right vn,h9,show(i+1)*9+j-9=i*9+j by omega]
  exact a7h ns i n (fun x hx=>h6 x (by simp[hx])) h j hj
theorem kids_rd {G:Nat→Prop} {w:World} {base:Nat} {v:Value} {ks:List Nat} (h:w.ownsRow base TI 1 v ks.length (kidVs ks)) (hG:∀ b,v.ownBlock=some b→G b):Rd G w v (.sl (ks.map fun k=> .int .i64 (k:Nat))):=by
 rcases h.2 with⟨rfl,h0⟩|⟨g,cap,cur,rfl,_,hg,hnc,_,hcs,htake⟩
 · have:ks=[]:=xl h0
   subst this;exact .slA _ _
 · refine .sl g 0 ks.length cap 1 _ (fun i _=> .int .i64 (ks.getD i 0:Nat)) vq hnc (fun e he=> ?_) (fun e he c hc=> ?_) (fun i e he j c hc=>⟨hG g rfl,?_⟩) fun i e he j c hc=> ?_
   · obtain⟨k,_,rfl⟩:=xr.1 he;rfl
   · obtain⟨k,_,rfl⟩:=xr.1 he
     have:c∈[D.int .i64 (k:Nat)]:=hc;rw[xe] at this;subst this;rfl
   · rw[v6,vt] at he
     obtain⟨k,hk,rfl⟩:=he;have hj:j=0:=by
      have:j<[D.int .i64 (k:Nat)].length:=(vw.1 hc).1;simpa using this
     subst hj;have hi:i<ks.length:=(vw.1 hk).1;have:=h.cellAt i vn;rw[show 0+i*1+0=i by omega]
     show w.cell? ⟨g,i,none⟩=_;rw[this];simp[kidVs,hk,List.getD_eq_getElem?_getD]
   · rw[v6,vt] at he
     obtain⟨k,hk,rfl⟩:=he;have hj:j=0:=by
      have:j<[D.int .i64 (k:Nat)].length:=(vw.1 hc).1;simpa using this
     subst hj;have hc':D.int .i64 (k:Nat)=c:=by
      have:[D.int .i64 (k:Nat)][0]? =some c:=hc;simpa using this
     subst hc';simp only[List.getD_eq_getElem?_getD,hk,Option.getD_some];exact .int _ _
theorem axw (n:NV):(sigD n.sig).cells=n.ty.d.cells++[.sl (n.ks.map fun k=> .int .i64 (k:Nat)),.int .i64 n.par,.int .i64 n.deep]:=by
 rw[cells_ty];rfl
theorem awa {cfg:Cfg}:Gives Tryz.prog cfg 22 xFlat:=by
 obtain⟨c,hc⟩:∃ c,Tryz.f22.body=some c:=wo.1 vo
 intro ds r hr F args w h1 h2 _ _;unfold xFlat at hr;split at hr
 · rename_i d p q
   simp only[vz] at hr;obtain⟨t,ht,hr⟩:=hr;split at hr
   · rename_i hn
     cases hr;have hd:=ald _ _ _ ht;subst hd;obtain⟨v0,v1,v2,v3,rfl,r0,r1,r2,r3⟩:=a8v h1 h2;obtain⟨ad,rfl⟩:=r0.nilS_inv;obtain rfl:=r2.int_inv;obtain rfl:=r3.int_inv;obtain⟨c0,c1,c2,c3,c4,c5,rfl,hrd⟩:=tyRd_of r1;have hrd':TyRd (fun b=>F b∧b<w.heap.size) w [c0,c1,c2,c3,c4,c5] t:=⟨hrd.1,fun i v c hv hc=>(hrd.2 i v c hv hc).mono fun b o u hb hu=>⟨⟨hb,World.block_lt_of_cell? w (ad3 b o) hu⟩,hu⟩⟩
     have hh:ql (.slice ad 0 0) (.slice none 0 0):=by
       cases ad with
       |none=>exact .inl rfl
       |some a=>exact .inr ⟨rfl,a,rfl⟩
     refine .inr ⟨eq Tryz.func22 vo hc _ w,(sf t.size t (wa _) (fun b=>F b∧b<w.heap.size) w.heap.size (fun b h=>h.2) w _ _ hh [] p q c0 c1 c2 c3 c4 c5 (NInv.nil _ _) (wa _) (by simp;omega) ⟨hn.1,by omega⟩ ⟨hn.2.2.1,hn.2.2.2⟩ hrd').mono ?_⟩
     rintro e W' ⟨l',ns',rfl,inv,fr,sig,rd,ne⟩
     rw[List.nil_append] at inv fr;rw[List.length_nil] at sig;obtain⟨g,cap,rfl⟩:=inv.atRow ne;obtain⟨room,nofz,hcap⟩:=aw4 inv.row;have hg:=inv.row.lt g rfl;have hown:∀ b,¬ OwnB (.slice none 0 0) [] b:=fun b hb=>by
       rcases hb with hb|⟨n,hn,_⟩
       · cases hb
       · cases hn
     have hE:(flatR 0 p q t).map sigD=ns'.map fun n=>sigD n.sig:=by rw[← sig,List.map_map];rfl
     refine⟨fr.size,fun b hb=>fr.block b hb (hown b),⟨fr.os,fr.tape,fr.output⟩,g,0,cap,by rw[hE,vu],hg.1,hg.2,by rw[hE,vu];exact hcap,nofz,?_⟩
     rw[hE];refine⟨by omega,room,fun e he=> ?_,fun e he c hc=> ?_,fun i e he j c hc=> ?_⟩
     · obtain⟨n,_,rfl⟩:=xr.1 he;rfl
     · obtain⟨n,_,rfl⟩:=xr.1 he
       have:c∈[D.int .i64 n.ty.kind,.sl (n.ty.names.map D.str),.sl (n.ty.kids.map Ty.d),.int .i64 n.ty.len,.int .i64 n.ty.prec,.int .i64 n.ty.scale,.sl (n.ks.map fun k=> .int .i64 (k:Nat)),.int .i64 n.par,.int .i64 n.deep]:=hc
       simp only[wc,xx,or_false] at this;rcases this with rfl|rfl|rfl|rfl|rfl|rfl|rfl|rfl|rfl<;>rfl
     · rw[v6,vt] at he
       obtain⟨n,hn',rfl⟩:=he;have hi:i<ns'.length:=(vw.1 hn').1;have hj:j<9:=by have:j<(sigD n.sig).cells.length:=(vw.1 hc).1;exact this
       have h6:=inv.six n (List.mem_of_getElem? hn');have hcell:W'.cell? (ad3 g (0+i*9+j))=n.cells[j]? :=by
         rw[show 0+i*9+j=i*9+j by omega]
         show W'.cell? ⟨g,i*9+j,none⟩=_;rw[inv.row.cellAt _ vn];exact a7h ns' i n inv.six hn' j hj
       have hlen:n.cells.length=9:=by simp[NV.cells,h6]
       refine⟨n.cells[j]'(by omega),by rw[hcell,vy vn],?_⟩
       have hv:n.cells[j]? =some (n.cells[j]'(by omega)):=vy vn
       generalize n.cells[j]'(by omega)=v at hv
       rw[axw] at hc;have htc:n.ty.d.cells.length=6:=by rw[cells_ty];rfl
       by_cases h5:j<6
       · rw[xv vn] at hc
         rw[NV.cells,xv vn] at hv;refine((rd n (List.mem_of_getElem? hn')).2 j v c hv hc).mono fun b o u hb hu=>⟨.inl hb,hu⟩
       · rw[List.getElem?_append_right vn,htc] at hc
         rw[NV.cells,List.getElem?_append_right vn,h6] at hv
         match j,hj,h5,hc,hv with
         | 6,_,_,hc,hv=>
          cases hc;cases hv;refine kids_rd (inv.kid i n hn') fun b hb=> .inr ⟨((inv.kid i n hn').lt b hb).1,fun e=> ?_⟩
          subst e;rcases inv.sepL i n hn' with h|h
          · rw[h] at hb;cases hb
          · exact h (by rw[hb];rfl)
         |7,_,_,hc,hv=>cases hc;cases hv;exact .int _ _
         |8,_,_,hc,hv=>cases hc;cases hv;exact .int _ _
   · cases hr
 · cases hr
