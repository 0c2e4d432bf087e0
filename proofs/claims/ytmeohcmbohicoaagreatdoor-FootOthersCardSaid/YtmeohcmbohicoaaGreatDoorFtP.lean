import Derived.Test.YtmeohcmbohicoaaGreatDoorFtD
namespace Go.Proofs.YtmeohcmbohicoaaGreatDoor
open Go Go.Ev
set_option maxHeartbeats 4000000
set_option maxRecDepth 100000
structure Nd where
 kind:Nat
 kids:List Nat
 names:List (List UInt8)
 len:Nat
 prec:Nat
 scale:Nat
def kidB (ks:List Nat):List UInt8:=(ks.map (varB 10)).flatten
def namB (ns:List (List UInt8)):List UInt8:=(ns.map (av 3)).flatten
def numB (j v:Nat):List UInt8:=if v=0 then[] else uintF j v
def kidF (ks:List Nat):List UInt8:=if kidB ks=[] then[] else av 2 (kidB ks)
def ndB (n:Nd):List UInt8:=uintF 1 n.kind++kidF n.kids++namB n.names++numB 4 n.len++numB 5 n.prec++numB 6 n.scale
structure NdOk (n:Nd):Prop where
 kind:n.kind≤1000000
 kids:∀ k∈n.kids,k≤1000000
 len:n.len≤1000000
 prec:n.prec≤1000000
 scale:n.scale≤1000000
 few:n.kids.length≤1000∧n.names.length≤1000
 all:(ndB n).length≤200000
theorem aw8 (k:Nat):varB 10 k≠[]:=by
 intro h;have:=nj k;rw[h] at this;simp at this
theorem ownBy {acc:List UInt8} (h:acc≠[]):ownZ 1 (acc.map byteD)= .own false 1 (acc.map byteD):=by
 cases acc with
 |nil=>exact absurd rfl h
 |cons y r=>rfl
theorem k7 (k:Nat) (r:List Nat):kidB (k::r)=varB 10 k++kidB r:=rfl
theorem ae6 (k:List UInt8) (r:List (List UInt8)):namB (k::r)=av 3 k++namB r:=rfl
def intN (k:Nat):D:= .int .i64 (k:Int)
def intsD (l:List Nat):D:= .sl (l.map intN)
def nodR (n:Nd×D×D×D):D:= .agg [.int .i64 (n.1.kind:Int),.sl (n.1.names.map D.str),n.2.1,.int .i64 (n.1.len:Int),.int .i64 (n.1.prec:Int),.int .i64 (n.1.scale:Int),intsD n.1.kids,n.2.2.1,n.2.2.2]
abbrev rkE (ns:List (Nd×D×D×D)) (i:Nat) (b:V) (x acc:List UInt8) (j:Nat):List (Nat×V):=
 [(0,b),(5,.d (.sl (ns.map nodR))),(6,.d (.int .i64 ((i:Int)))),(7,.own false 1 (x.map byteD)),(8,ownZ 1 (acc.map byteD)),(9,.d (.int .i64 ((j:Int))))]
theorem ax1 (ns:List (Nd×D×D×D)) (i:Nat) (n:Nd×D×D×D) (hi:ns[i]? =some n) (hk:∀ k∈n.1.kids,k≤1000000) (hl:n.1.kids.length≤1000) (b:V) (hb0:b.home 0=b) (x:List UInt8) (M:List (Cel×V)) (hM:settleM 0 M=M) (K:List Kf):∀ (r:List Nat) (j:Nat) (acc:List UInt8),n.1.kids.drop j=r→j≤n.1.kids.length→acc.length≤10*j→
  go X_ab (.c (.loop t8):: .b 2::K) ⟨rkE ns i b x acc j,M⟩=go X_ab K ⟨rkE ns i b x (acc++kidB r) n.1.kids.length++[(36,.d (.bool (false)))],M⟩
 | [],j,acc,hr,hj,ha=>by
  have:=br hr;have:j=n.1.kids.length:=vn;subst this;have d_a:decide ((n.1.kids.length:Int)<n.1.kids.length)=false:=by simp<;>omega
  rw[go_loop,show kidB []=[] from rfl,List.append_nil]
  simp only[List.cons_append,List.nil_append];simp(disch:=first|exact vm|fail) only[go_sem,X_ab,d_a,ab,hb0,hM,hi,nodR,intsD,vu]
 | k::r,j,acc,hr,hj,ha=>by
  obtain⟨h1,h2,h3⟩:=cc hr;have hm:=hk k (List.mem_of_getElem? h2);have hlt:j<n.1.kids.length:=h1;have hv:=cl 10 k;have d_a:decide ((j:Int)<n.1.kids.length)=true:=by simp<;>omega
  have ih:=ax1 ns i n hi hk hl b hb0 x M hM K r (j+1) (acc++varB 10 k) h3 h1 (by rw[v8];omega)
  rw[k7,← wh];refine Eq.trans ?_ ih;simp only[rkE];rw[ownBy (acc:=acc++varB 10 k) (by simp[aw8])]
  conv=>lhs;rw[go_loop]
  by_cases hz:acc=[]
  · subst hz
    have hp:=er (u:=k) vn;simp(disch:=first|exact vm|fail) only[go_sem,X_ab,d_a,ab,hb0,hM,hi,h2,nodR,intsD,intN,vu,List.map_nil,af,hp,List.nil_append,Int.natCast_add]
  · rw[ownBy hz]
    have hp:=bn (b:=acc) (u:=k) vn vn;simp(disch:=first|exact vm|fail) only[go_sem,X_ab,d_a,ab,hb0,hM,hi,h2,nodR,intsD,intN,vu,hp,Int.natCast_add]
abbrev rnE (ns:List (Nd×D×D×D)) (i:Nat) (b:V) (x:List UInt8) (j:Nat):List (Nat×V):=
 [(0,b),(5,.d (.sl (ns.map nodR))),(6,.d (.int .i64 ((i:Int)))),(7,.own false 1 (x.map byteD)),(10,.d (.int .i64 ((j:Int))))]
theorem ax0 (ns:List (Nd×D×D×D)) (i:Nat) (n:Nd×D×D×D) (hi:ns[i]? =some n) (hl:n.1.names.length≤1000) (b:V) (hb0:b.home 0=b) (M:List (Cel×V)) (hM:settleM 0 M=M) (K:List Kf):∀ (r:List (List UInt8)) (j:Nat) (x:List UInt8),n.1.names.drop j=r→j≤n.1.names.length→(x++namB r).length≤300000→
  go X_ab (.c (.loop qi):: .b 4::K) ⟨rnE ns i b x j,M⟩=go X_ab K ⟨rnE ns i b (x++namB r) n.1.names.length++[(64,.d (.bool (false)))],M⟩
 | [],j,x,hr,hj,hx=>by
  have:=br hr;have:j=n.1.names.length:=vn;subst this;have d_a:decide ((n.1.names.length:Int)<n.1.names.length)=false:=by simp<;>omega
  rw[go_loop,show namB []=[] from rfl,List.append_nil]
  simp only[List.cons_append,List.nil_append];simp(disch:=first|exact vm|fail) only[go_sem,X_ab,d_a,ab,hb0,hM,hi,nodR,vu]
 | k::r,j,x,hr,hj,hx=>by
  obtain⟨h1,h2,h3⟩:=cc hr;have hlt:j<n.1.names.length:=h1;have d_a:decide ((j:Int)<n.1.names.length)=true:=by simp<;>omega
  rw[ae6,← wh] at hx ⊢;have ih:=ax0 ns i n hi hl b hb0 M hM K r (j+1) (x++av 3 k) h3 h1 hx;refine Eq.trans ?_ ih;have hx2:x.length+k.length≤300000:=by
   simp only[av,v8] at hx;omega
  simp only[rnE]
  conv=>lhs;rw[go_loop]
  have hp:evL cfg n_ba 0 [.own false 1 (x.map byteD),.d (.int .i64 (3)),.d (.sl ((k).map byteD))] []=some (.own false 1 ((x++av 3 k).map byteD),[]):=bl (num:=3) vn vn vn vn;simp(disch:=first|exact vm|fail) only[go_sem,X_ab,d_a,ab,hb0,hM,hi,h2,nodR,vu,hp,Int.natCast_add,v6,Option.map_some]
abbrev r3E (ns:List (Nd×D×D×D)) (i:Nat) (b:V) (x:List UInt8) (j:Int):List (Nat×V):=
 [(0,b),(5,.d (.sl (ns.map nodR))),(6,.d (.int .i64 ((i:Int)))),(7,.own false 1 (x.map byteD)),(11,.d (.int .i64 (j)))]
theorem r3_0 (ns:List (Nd×D×D×D)) (i:Nat) (n:Nd×D×D×D) (hi:ns[i]? =some n) (hv:n.1.len≤1000000) (b:V) (hb0:b.home 0=b) (x:List UInt8) (hx:x.length≤400000) (M:List (Cel×V)) (hM:settleM 0 M=M) (K:List Kf):
   go X_ab (.c (.loop fq)::K) ⟨r3E ns i b x 0,M⟩=go X_ab (.c (.loop fq)::K) ⟨r3E ns i b (x++numB 4 n.1.len) 1,M⟩:=by
 simp only[r3E]
 conv=>lhs;rw[go_loop]
 unfold numB;by_cases hz:n.1.len=0
 · rw[if_pos hz,List.append_nil]
   have e:((n.1.len:Int) !=0)=false:=by simp;omega
   simp(disch:=first|exact vm|fail) only[go_sem,X_ab,ab,hb0,hM,hi,nodR,Int.reduceLT,decide_true,e]
 · rw[if_neg hz]
   have e:((n.1.len:Int) !=0)=true:=by simp;omega
   have hp:evL cfg n_bf 0 [.own false 1 (x.map byteD),.d (.int .i64 (4)),.d (.int .u64 ((n.1.len:Int)))] []=some (.own false 1 ((x++uintF 4 n.1.len).map byteD),[]):=bb (num:=4) vn vn vn vn;simp(disch:=first|exact vm|fail) only[go_sem,X_ab,ab,hb0,hM,hi,nodR,Int.reduceLT,decide_true,e,hp]
theorem r3_1 (ns:List (Nd×D×D×D)) (i:Nat) (n:Nd×D×D×D) (hi:ns[i]? =some n) (hv:n.1.prec≤1000000) (b:V) (hb0:b.home 0=b) (x:List UInt8) (hx:x.length≤400000) (M:List (Cel×V)) (hM:settleM 0 M=M) (K:List Kf):
   go X_ab (.c (.loop fq)::K) ⟨r3E ns i b x 1,M⟩=go X_ab (.c (.loop fq)::K) ⟨r3E ns i b (x++numB 5 n.1.prec) 2,M⟩:=by
 simp only[r3E]
 conv=>lhs;rw[go_loop]
 unfold numB;by_cases hz:n.1.prec=0
 · rw[if_pos hz,List.append_nil]
   have e:((n.1.prec:Int) !=0)=false:=by simp;omega
   simp(disch:=first|exact vm|fail) only[go_sem,X_ab,ab,hb0,hM,hi,nodR,Int.reduceLT,decide_true,e]
 · rw[if_neg hz]
   have e:((n.1.prec:Int) !=0)=true:=by simp;omega
   have hp:evL cfg n_bf 0 [.own false 1 (x.map byteD),.d (.int .i64 (5)),.d (.int .u64 ((n.1.prec:Int)))] []=some (.own false 1 ((x++uintF 5 n.1.prec).map byteD),[]):=bb (num:=5) vn vn vn vn;simp(disch:=first|exact vm|fail) only[go_sem,X_ab,ab,hb0,hM,hi,nodR,Int.reduceLT,decide_true,e,hp]
theorem afo (s:Get) (dst:Option Nat) (z:Nat) (x:IOpd) (c d e:D) (r:List D):evIdx s dst z x (.d (.sl (c::d::e::r))) 2=if e.cells.length=z then some (put1 dst (.iptr e 0)) else none:=by
 rw[co _ _ _ _ vn];rfl
theorem r3_2 (ns:List (Nd×D×D×D)) (i:Nat) (n:Nd×D×D×D) (hi:ns[i]? =some n) (hv:n.1.scale≤1000000) (b:V) (hb0:b.home 0=b) (x:List UInt8) (hx:x.length≤400000) (M:List (Cel×V)) (hM:settleM 0 M=M) (K:List Kf):
   go X_ab (.c (.loop fq)::K) ⟨r3E ns i b x 2,M⟩=go X_ab (.c (.loop fq)::K) ⟨r3E ns i b (x++numB 6 n.1.scale) 3,M⟩:=by
 simp only[r3E]
 conv=>lhs;rw[go_loop]
 unfold numB;by_cases hz:n.1.scale=0
 · rw[if_pos hz,List.append_nil]
   have e:((n.1.scale:Int) !=0)=false:=by simp;omega
   simp(disch:=first|exact vm|fail) only[go_sem,X_ab,ab,hb0,hM,hi,nodR,Int.reduceLT,decide_true,afo,e]
 · rw[if_neg hz]
   have e:((n.1.scale:Int) !=0)=true:=by simp;omega
   have hp:evL cfg n_bf 0 [.own false 1 (x.map byteD),.d (.int .i64 (6)),.d (.int .u64 ((n.1.scale:Int)))] []=some (.own false 1 ((x++uintF 6 n.1.scale).map byteD),[]):=bb (num:=6) vn vn vn vn;simp(disch:=first|exact vm|fail) only[go_sem,X_ab,ab,hb0,hM,hi,nodR,Int.reduceLT,decide_true,afo,e,hp]
theorem afw (k:Nat) (v:List UInt8):av k v≠[]:=by
 intro h;have:=(bz k v).1;rw[h] at this;simp at this
abbrev roE (ns:List (Nd×D×D×D)) (i:Nat) (b:List UInt8):List (Nat×V):=[(0,ownZ 1 (b.map byteD)),(5,.d (.sl (ns.map nodR))),(6,.d (.int .i64 ((i:Int))))]
theorem axy (ns:List (Nd×D×D×D)) (i:Nat) (n:Nd×D×D×D) (hi:ns[i]? =some n) (hlt:i<ns.length) (hn:ns.length≤100000) (ok:NdOk n.1) (b:List UInt8) (hb:b.length≤500000) (v0:V) (h0:v0=ownZ 1 (b.map byteD)∨v0= .own false 1 (b.map byteD)) (M:List (Cel×V)) (hM:settleM 0 M=M) (K:List Kf):
   go X_ab (.c (.loop kf)::K) ⟨[(0,v0),(5,.d (.sl (ns.map nodR))),(6,.d (.int .i64 ((i:Int))))],M⟩=go X_ab (.c (.loop kf)::K) ⟨roE ns (i+1) (b++av 4 (ndB n.1)),M⟩:=by
 obtain⟨o1,o2,o3,o4,o5,⟨o6,o7⟩,o8⟩:=ok;unfold ndB at o8 ⊢;simp only[v8] at o8;have hb0:v0.home 0=v0:=by rcases h0 with rfl|rfl<;>first|rfl|simp[ab]
 have d_a:decide ((i:Int)<ns.length)=true:=by simp<;>omega
 have q1:=a8 1 n.1.kind;have g1:=bv (num:=1) (v:=n.1.kind) vn vn vn;have g1:evL cfg n_bf 0 [.d .nilS,.d (.int .i64 (1)),.d (.int .u64 ((n.1.kind:Int)))] []=some (.own false 1 ((uintF 1 n.1.kind).map byteD),[]):=g1;have l1:=fun K=>ax1 ns i n hi o2 o6 v0 hb0 (uintF 1 n.1.kind) M hM K n.1.kids 0 [] rfl (ww _) (ww _)
 have l2:=fun K=>ax0 ns i n hi o7 v0 hb0 M hM K n.1.names 0 (uintF 1 n.1.kind++kidF n.1.kids) rfl (ww _) (by simp only[v8];omega)
 have l3:=fun K=>r3_0 ns i n hi o3 v0 hb0 (uintF 1 n.1.kind++kidF n.1.kids++namB n.1.names) (by simp only[v8];omega) M hM K
 have l4:=fun K=>r3_1 ns i n hi o4 v0 hb0 (uintF 1 n.1.kind++kidF n.1.kids++namB n.1.names++numB 4 n.1.len) (by simp only[v8];omega) M hM K
 have l5:=fun K=>r3_2 ns i n hi o5 v0 hb0 (uintF 1 n.1.kind++kidF n.1.kids++namB n.1.names++numB 4 n.1.len++numB 5 n.1.prec) (by simp only[v8];omega) M hM K
 have e6:(uintF 1 n.1.kind++kidF n.1.kids++namB n.1.names++numB 4 n.1.len++numB 5 n.1.prec++numB 6 n.1.scale).length≤300000:=by simp only[v8];omega
 simp only[roE];have tail:go X_ab (.c (.loop qi):: .b 4:: .c ((te.seq (.block 6 (.loop fq))).seq td):: .b 1:: .c tc:: .c (.loop kf)::K)
     ⟨[(0,v0),(5,.d (.sl (ns.map nodR))),(6,.d (.int .i64 ((i:Int)))),(7,.own false 1 ((uintF 1 n.1.kind++kidF n.1.kids).map byteD)),(10,.d (.int .i64 (0)))],M⟩=
     go X_ab (.c (.loop kf)::K) ⟨[(0,ownZ 1 ((b++av 4 (uintF 1 n.1.kind++kidF n.1.kids++namB n.1.names++numB 4 n.1.len++numB 5 n.1.prec++numB 6 n.1.scale)).map byteD)),(5,.d (.sl (ns.map nodR))),(6,.d (.int .i64 (((i+1:Nat):Int))))],M⟩:=by
   refine(l2 _).trans ?_;simp only[r3E,rnE,List.cons_append,List.nil_append] at l3 l4 l5 ⊢;simp(disch:=first|exact vm|fail) only[go_sem,X_ab,ab,hb0,hM]
   refine(l3 _).trans ((l4 _).trans ((l5 _).trans ?_));clear l1 l2 l3 l4 l5;generalize uintF 1 n.1.kind++kidF n.1.kids++namB n.1.names++numB 4 n.1.len++numB 5 n.1.prec++numB 6 n.1.scale=x at *;rw[ownBy (acc:=b++av 4 x) (by simp[afw])]
   conv=>lhs;rw[go_loop]
   rcases h0 with h0|h0
   · by_cases hz:b=[]
     · subst hz
       subst h0;have hp:evL cfg n_ba 0 [.d .nilS,.d (.int .i64 (4)),.d (.sl ((x).map byteD))] []=some (.own false 1 ((av 4 x).map byteD),[]):=me (num:=4) vn vn vn;simp(disch:=first|exact vm|fail) only[go_sem,X_ab,ab,hM,Int.reduceLT,decide_false,List.map_nil,af,List.nil_append,hp,Int.natCast_add]
     · rw[ownBy hz] at h0
       subst h0;have hp:evL cfg n_ba 0 [.own false 1 (b.map byteD),.d (.int .i64 (4)),.d (.sl ((x).map byteD))] []=some (.own false 1 ((b++av 4 x).map byteD),[]):=bl (num:=4) vn vn vn vn;simp(disch:=first|exact vm|fail) only[go_sem,X_ab,ab,hM,Int.reduceLT,decide_false,hp,Int.natCast_add]
   · subst h0
     have hp:evL cfg n_ba 0 [.own false 1 (b.map byteD),.d (.int .i64 (4)),.d (.sl ((x).map byteD))] []=some (.own false 1 ((b++av 4 x).map byteD),[]):=bl (num:=4) vn vn vn vn;simp(disch:=first|exact vm|fail) only[go_sem,X_ab,ab,hM,Int.reduceLT,decide_false,hp,Int.natCast_add]
 refine Eq.trans ?_ tail;clear tail l2 l3 l4 l5
 conv=>lhs;rw[go_loop]
 simp only[rkE,List.map_nil,af,List.nil_append] at l1;simp(disch:=first|exact vm|fail) only[go_sem,X_ab,d_a,ab,hb0,hM,hi,nodR,g1]
 refine(l1 _).trans ?_;clear l1;unfold kidF at o8 ⊢;by_cases hz:kidB n.1.kids=[]
 · rw[hz,if_pos rfl,List.append_nil]
   simp(disch:=first|exact vm|fail) only[go_sem,X_ab,ab,hb0,hM,List.map_nil,af,List.cons_append,List.nil_append,Int.reduceGT,decide_false]
 · rw[if_neg hz] at o8 ⊢
   have hlen:(kidB n.1.kids).length≤200000:=by
     simp only[av,v8] at o8;omega
   rw[ownBy hz];have hp:evL cfg n_ba 0 [.own false 1 ((uintF 1 n.1.kind).map byteD),.d (.int .i64 (2)),.d (.sl ((kidB n.1.kids).map byteD))] []=some (.own false 1 ((uintF 1 n.1.kind++av 2 (kidB n.1.kids)).map byteD),[]):=bl (num:=2) vn vn vn vn;have hpos:0<(kidB n.1.kids).length:=List.length_pos_iff.2 hz;have d_c:decide (((kidB n.1.kids).length:Int)>0)=true:=by simp<;>omega
   generalize kidB n.1.kids=q at *;simp(disch:=first|exact vm|fail) only[go_sem,X_ab,ab,hb0,hM,List.cons_append,List.nil_append,vu,d_c,hp]
