import Derived.Test.YtmeohcmbohicoaaGreatDoorFtB
namespace Go.Proofs.YtmeohcmbohicoaaGreatDoor
open Go Go.Ev
set_option maxHeartbeats 4000000
theorem len2' (a b:D):[a,b].length=2:=rfl
def tM (l:List Fld) (k:Nat):List UInt8:=((lastM l k 2).getD fld0).b
def pairD (l:List Fld):D:= .agg [.str (tM l 1),.sl ((tM l 2).map byteD)]
def a6t (l:List Fld):Prop:=l.length≤1000000∧∀ f∈l,f.b.length≤1000000
abbrev prE (ls:List (List Fld)) (i:Nat) (acc:List (List Fld)):List (Nat×V):=[(4,ownZ 2 (acc.map pairD)),(18,.d (.sl (ls.map fldsD))),(19,.d (.int .i64 ((ls.length:Int)))),(20,.d (.int .i64 ((i:Int))))]
theorem ownPr (acc:List (List Fld)) (f:List Fld):ownZ 2 ((acc++[f]).map pairD)= .own false 2 (acc.map pairD++[pairD f]):=by
 rw[List.map_append,List.map_cons,List.map_nil,bt]
theorem av1 (ls:List (List Fld)) (i:Nat) (l:List Fld) (acc:List (List Fld)) (hl:ls[i]? =some l) (hi:i<ls.length) (hn:ls.length≤1024) (ha:acc.length≤i) (hs:a6t l) (x0 x1 x2 x3 x4 x5 x6 x7 x8:D) (K:List Kf):
  go X_ax (.c (.loop qg)::K) ⟨prE ls i acc,b9 1 x0 x1 x2 x3 x4 x5 x6 x7 x8⟩=
   go X_ax (.c (.loop qg)::K) ⟨prE ls (i+1) (acc++[l]),b9 1 x0 x1 x2 x3 x4 x5 x6 x7 x8⟩:=by
 have d_a:decide ((i:Int)<ls.length)=true:=by simp<;>omega
 obtain⟨s0,s1⟩:=hs;have n1:evL cfg n_cd 0 [.d (.sl (l.map Fld.d)),.d (.int .i64 (1))] []=some (textD (lastM l 1 2),[]):=j4 l 1 s0 s1;have n2:evL cfg n_cd 0 [.d (.sl (l.map Fld.d)),.d (.int .i64 (2))] []=some (textD (lastM l 2 2),[]):=j4 l 2 s0 s1;unfold textD at n1 n2;simp only[prE,b9,ownPr];unfold pairD tM;generalize lastM l 1 2=o1 at *;generalize lastM l 2 2=o2 at *;generalize(o1.getD fld0).b=t1 at *;generalize(o2.getD fld0).b=t2 at*
 conv=>lhs;rw[go_loop]
 cases acc with
 | nil=>
  simp(disch:=first|exact vm|fail) only[go_sem,X_ax,d_a,hl,fldsD,List.map_nil,af,n1,n2,List.nil_append,Int.natCast_add,len2']
 | cons y acc=>
  simp only[List.length_cons] at ha;simp(disch:=first|exact vm|fail) only[go_sem,X_ax,d_a,hl,fldsD,List.map_cons,ak,n1,n2,List.cons_append,List.length_cons,vu,Int.natCast_add,len2']
theorem rl (ls:List (List Fld)) (hn:ls.length≤1024) (hw:∀ l∈ls,a6t l) (x0 x1 x2 x3 x4 x5 x6 x7 x8:D) (K:List Kf):∀ (r:List (List Fld)) (i:Nat) (acc:List (List Fld)),ls.drop i=r→i≤ls.length→acc.length≤i→
  go X_ax (.c (.loop qg):: .b 0::K) ⟨prE ls i acc,b9 1 x0 x1 x2 x3 x4 x5 x6 x7 x8⟩=go X_ax K ⟨prE ls ls.length (acc++r)++[(21,.d (.bool (false)))],b9 1 x0 x1 x2 x3 x4 x5 x6 x7 x8⟩
 | [],i,acc,hr,hi,hs=>by
  have:=br hr;have:i=ls.length:=vn;subst this;have d_a:decide ((ls.length:Int)<ls.length)=false:=by simp<;>omega
  rw[List.append_nil];rw[go_loop];simp only[List.cons_append,List.nil_append];simp(disch:=first|exact vm|fail) only[go_sem,X_ax,d_a,ab]
 | l::r,i,acc,hr,hi,hs=>by
  obtain⟨h1,h2,h3⟩:=cc hr;have hm:l∈ls:=List.mem_of_getElem? h2;have ih:=rl ls hn hw x0 x1 x2 x3 x4 x5 x6 x7 x8 K r (i+1) (acc++[l]) h3 h1 (by simp;omega)
  rw[wh,List.singleton_append] at ih;exact Eq.trans (av1 ls i l acc h2 h1 hn hs (hw l hm) x0 x1 x2 x3 x4 x5 x6 x7 x8 _) ih
theorem a6s (p:Parts) (hn:p.c.length≤32) (hw:∀ l∈p.c,a6t l):evL cfg n_ax 0 [.d (iw p)] []=some (.d (.tup [.sl (p.c.map pairD),.bool true]),[]):=by
 rw[o_ax];have d_a:decide ((p.c.length:Int)>32)=false:=by simp<;>omega
 have h:=rl p.c vn hw (.sl []) (.sl []) (.sl []) (.sl (p.a.map fldsD)) (.sl (p.b.map fldsD)) (.sl (p.c.map fldsD)) (.sl []) (.sl (p.e.map fldsD)) (.sl (p.st.map ji)) [.c (.seq agu .ret)] p.c 0 [] rfl (ww _) (ww _);simp only[List.map_nil,af,List.cons_append,List.nil_append,prE] at h;unfold iw;simp(disch:=first|exact vm|fail) only[go_sem,X_ax,c_ax,vu,d_a,len9,cst8,Int.reduceLE,Int.reduceLT,Int.reduceToNat,Nat.reduceMul,and_self,if_true]
 refine h.trans ?_;clear h;cases p.c with
 |nil=>simp(disch:=first|exact vm|fail) only[go_sem,X_ax,List.map_nil,af]
 |cons y r=>simp(disch:=first|exact vm|fail) only[go_sem,X_ax,List.map_cons,ak]
set_option maxRecDepth 100000
abbrev i0:D:= .int .i64 0
theorem len8 (a b c d e f g h:D):[a,b,c,d,e,f,g,h].length=8:=rfl
theorem len15 (a b c d e f g h i j k l m n o:D):[a,b,c,d,e,f,g,h,i,j,k,l,m,n,o].length=15:=rfl
theorem tk8 (a b c d e f g h:D):List.take 8 [a,b,c,d,e,f,g,h]=[a,b,c,d,e,f,g,h]:=rfl
theorem len6 (a b c d e f:D):[a,b,c,d,e,f].length=6:=rfl
theorem len12 (a b c d e f g h i j k l:D):[a,b,c,d,e,f,g,h,i,j,k,l].length=12:=rfl
