import Derived.Test.YtplmdlobbfcknaaGreatDoorFtA
namespace Go.Proofs.YtplmdlobbfcknaaGreatDoor
open Go Go.Ev
set_option maxHeartbeats 4000000
theorem a9 (fs:List Fld) (num:Nat) (hn:fs.length≤1000000) (hu:uM fs num≤262144):evL cfg n_bg 0 [.d (.sl (fs.map Fld.d)),.d (.int .i64 ((num:Int)))] []=some (.d (.tup [.int .i64 ((uM fs num:Nat):Int),.bool true]),[]):=by
 rw[o_bg];have h:=gh fs num hn;unfold uintD at h;unfold uM at hu ⊢;generalize lastM fs num 0=o at *;generalize(o.getD fld0).u=u at *;have d_a:decide ((u:Int)>262144)=false:=by simp<;>omega
 simp(disch:=first|exact yi|fail) only[go_sem,X_bg,c_bg,h,d_a]
def boxI (k:Nat):Option (Int×Int×Int×Int×Int)→List (Cel×V)
 |none=>[]
 |some (a,b,c,d,e)=>[(⟨0,k,0⟩,.d (.int .i64 (a))),(⟨0,k,1⟩,.d (.int .i64 (b))),(⟨0,k,2⟩,.d (.int .i64 (c))),(⟨0,k,3⟩,.d (.int .i64 (d))),(⟨0,k,4⟩,.d (.int .i64 (e)))]
theorem gu (k:Nat):boxI k none=[]:=rfl
theorem dk (k:Nat) (o:Option (Int×Int×Int×Int×Int)):freeM 0 k (boxI k o)=[]:=by
 cases o with
 |none=>rfl
 |some f=>simp only[boxI,ur,ad5,true_and,if_true]
theorem ae (k:Nat) (o:Option (Int×Int×Int×Int×Int)):settleM 0 (boxI k o)=boxI k o:=by cases o<;>rfl
theorem de (k:Nat) (o:Option (Int×Int×Int×Int×Int)):leaveM 0 (boxI k o)=[]:=by cases o<;>rfl
def strD (l:List Fld):D:= .agg [.int .i64 ((uM l 1:Nat):Int),.int .i64 ((uM l 2:Nat):Int),.int .i64 ((uM l 3:Nat):Int),.int .i64 ((uM l 4:Nat):Int),.int .i64 ((uM l 5:Nat):Int)]
def strB (l:List Fld):Int×Int×Int×Int×Int:=((uM l 1:Nat),(uM l 2:Nat),(uM l 3:Nat),(uM l 4:Nat),(uM l 5:Nat))
def strOk (l:List Fld):Prop:=l.length≤1000000∧uM l 1≤262144∧uM l 2≤262144∧uM l 3≤262144∧uM l 4≤262144∧uM l 5≤262144
abbrev strE (ls:List (List Fld)) (i:Nat) (acc:List (List Fld)):List (Nat×V):=[(4,ownZ 5 (acc.map strD)),(19,.d (.sl (ls.map fldsD))),(20,.d (.int .i64 ((ls.length:Int)))),(21,.d (.int .i64 ((i:Int))))]
abbrev b9 (k:Nat) (x0 x1 x2 x3 x4 x5 x6 x7 x8:D):List (Cel×V):=[(⟨0,k,0⟩,.d x0),(⟨0,k,1⟩,.d x1),(⟨0,k,2⟩,.d x2),(⟨0,k,3⟩,.d x3),(⟨0,k,4⟩,.d x4),(⟨0,k,5⟩,.d x5),(⟨0,k,6⟩,.d x6),(⟨0,k,7⟩,.d x7),(⟨0,k,8⟩,.d x8)]
theorem ownSt (acc:List (List Fld)) (f:List Fld):ownZ 5 ((acc++[f]).map strD)= .own false 5 (acc.map strD++[strD f]):=by
 rw[List.map_append,List.map_cons,List.map_nil,j4]
theorem xo (ls:List (List Fld)) (i:Nat) (l:List Fld) (acc:List (List Fld)) (o:Option (Int×Int×Int×Int×Int)) (hl:ls[i]? =some l) (hi:i<ls.length) (hn:ls.length≤1024) (ha:acc.length≤i) (hs:strOk l) (x0 x1 x2 x3 x4 x5 x6 x7 x8:D) (K:List Kf):
  go X_ae (.c (.loop sd)::K) ⟨strE ls i acc,b9 1 x0 x1 x2 x3 x4 x5 x6 x7 x8++boxI 7 o⟩=
   go X_ae (.c (.loop sd)::K) ⟨strE ls (i+1) (acc++[l]),b9 1 x0 x1 x2 x3 x4 x5 x6 x7 x8++boxI 7 (some (strB l))⟩:=by
 have d_a:decide ((i:Int)<ls.length)=true:=by simp<;>omega
 obtain⟨s0,s1,s2,s3,s4,s5⟩:=hs;have n1:evL cfg n_bg 0 [.d (.sl (l.map Fld.d)),.d (.int .i64 (1))] []=some (.d (.tup [.int .i64 ((uM l 1:Nat):Int),.bool true]),[]):=a9 l 1 s0 s1;have n2:evL cfg n_bg 0 [.d (.sl (l.map Fld.d)),.d (.int .i64 (2))] []=some (.d (.tup [.int .i64 ((uM l 2:Nat):Int),.bool true]),[]):=a9 l 2 s0 s2;have n3:evL cfg n_bg 0 [.d (.sl (l.map Fld.d)),.d (.int .i64 (3))] []=some (.d (.tup [.int .i64 ((uM l 3:Nat):Int),.bool true]),[]):=a9 l 3 s0 s3;have n4:evL cfg n_bg 0 [.d (.sl (l.map Fld.d)),.d (.int .i64 (4))] []=some (.d (.tup [.int .i64 ((uM l 4:Nat):Int),.bool true]),[]):=a9 l 4 s0 s4;have n5:evL cfg n_bg 0 [.d (.sl (l.map Fld.d)),.d (.int .i64 (5))] []=some (.d (.tup [.int .i64 ((uM l 5:Nat):Int),.bool true]),[]):=a9 l 5 s0 s5;have hS:=ae 7 o;have hF:=dk 7 o;generalize boxI 7 o=T at *;simp only[strE,b9,strB,List.cons_append,List.nil_append,boxI,ownSt];unfold strD;generalize uM l 1=u1 at *;generalize uM l 2=u2 at *;generalize uM l 3=u3 at *;generalize uM l 4=u4 at *;generalize uM l 5=u5 at*
 conv=>lhs;rw[go_loop]
 cases acc with
 | nil=>
  simp(disch:=first|exact yi|fail) only[go_sem,X_ae,d_a,hS,hF,hl,fldsD,List.map_nil,bc,List.nil_append]
  conv=>lhs;rw[go_loop]
  simp(disch:=first|exact yi|fail) only[go_sem,X_ae,hS,n1,cst5,Int.reduceLT,decide_true]
  conv=>lhs;rw[go_loop]
  simp(disch:=first|exact yi|fail) only[go_sem,X_ae,hS,n2,cst5,Int.reduceLT,decide_true]
  conv=>lhs;rw[go_loop]
  simp(disch:=first|exact yi|fail) only[go_sem,X_ae,hS,n3,cst5,Int.reduceLT,decide_true]
  conv=>lhs;rw[go_loop]
  simp(disch:=first|exact yi|fail) only[go_sem,X_ae,hS,n4,cst5,Int.reduceLT,decide_true]
  conv=>lhs;rw[go_loop]
  simp(disch:=first|exact yi|fail) only[go_sem,X_ae,hS,n5,cst5,Int.reduceLT,decide_true]
  conv=>lhs;rw[go_loop]
  simp(disch:=first|exact yi|fail) only[go_sem,X_ae,hS,cst5,Int.reduceLT,decide_false,Int.natCast_add,List.nil_append,len5]
 | cons y acc=>
  simp only[List.length_cons] at ha;simp(disch:=first|exact yi|fail) only[go_sem,X_ae,d_a,hS,hF,hl,fldsD,List.map_cons,bo,List.cons_append]
  conv=>lhs;rw[go_loop]
  simp(disch:=first|exact yi|fail) only[go_sem,X_ae,hS,n1,cst5,Int.reduceLT,decide_true]
  conv=>lhs;rw[go_loop]
  simp(disch:=first|exact yi|fail) only[go_sem,X_ae,hS,n2,cst5,Int.reduceLT,decide_true]
  conv=>lhs;rw[go_loop]
  simp(disch:=first|exact yi|fail) only[go_sem,X_ae,hS,n3,cst5,Int.reduceLT,decide_true]
  conv=>lhs;rw[go_loop]
  simp(disch:=first|exact yi|fail) only[go_sem,X_ae,hS,n4,cst5,Int.reduceLT,decide_true]
  conv=>lhs;rw[go_loop]
  simp(disch:=first|exact yi|fail) only[go_sem,X_ae,hS,n5,cst5,Int.reduceLT,decide_true]
  conv=>lhs;rw[go_loop]
  simp(disch:=first|exact yi|fail) only[go_sem,X_ae,hS,cst5,Int.reduceLT,decide_false,Int.natCast_add,List.cons_append,List.length_cons,y9,len5]
theorem o5 (ls:List (List Fld)) (hn:ls.length≤1024) (hw:∀ l∈ls,strOk l) (x0 x1 x2 x3 x4 x5 x6 x7 x8:D) (K:List Kf):∀ (r:List (List Fld)) (i:Nat) (acc:List (List Fld)) (o:Option (Int×Int×Int×Int×Int)),ls.drop i=r→i≤ls.length→acc.length≤i→
  ∃ o',go X_ae (.c (.loop sd):: .b 0::K) ⟨strE ls i acc,b9 1 x0 x1 x2 x3 x4 x5 x6 x7 x8++boxI 7 o⟩=go X_ae K ⟨strE ls ls.length (acc++r)++[(22,.d (.bool (false)))],b9 1 x0 x1 x2 x3 x4 x5 x6 x7 x8++boxI 7 o'⟩
 | [],i,acc,o,hr,hi,hs=>by
  have:=iw hr;have:i=ls.length:=yj;subst this;refine⟨o,?_⟩;have d_a:decide ((ls.length:Int)<ls.length)=false:=by simp<;>omega
  have hS:=ae 7 o;rw[List.append_nil];generalize boxI 7 o=T at *;rw[go_loop];simp only[List.cons_append,List.nil_append];simp(disch:=first|exact yi|fail) only[go_sem,X_ae,d_a,hS,bp]
 | l::r,i,acc,o,hr,hi,hs=>by
  obtain⟨h1,h2,h3⟩:=ll hr;have hm:l∈ls:=List.mem_of_getElem? h2;obtain⟨o',ih⟩:=o5 ls hn hw x0 x1 x2 x3 x4 x5 x6 x7 x8 K r (i+1) (acc++[l]) (some (strB l)) h3 h1 (by simp;omega)
  rw[zm,List.singleton_append] at ih;exact⟨o',Eq.trans (xo ls i l acc o h2 h1 hn hs (hw l hm) x0 x1 x2 x3 x4 x5 x6 x7 x8 _) ih⟩
theorem afb (p:Parts) (hn:p.a.length≤1024) (hw:∀ l∈p.a,strOk l):evL cfg n_ae 0 [.d (jr p)] []=some (.d (.tup [.sl (p.a.map strD),.bool true]),[]):=by
 rw[o_ae];have d_a:decide ((p.a.length:Int)>1024)=false:=by simp<;>omega
 obtain⟨o,h⟩:=o5 p.a hn hw (.sl []) (.sl []) (.sl []) (.sl (p.a.map fldsD)) (.sl (p.b.map fldsD)) (.sl (p.c.map fldsD)) (.sl []) (.sl (p.e.map fldsD)) (.sl (p.st.map r8)) [.c (.seq af7 .ret)] p.a 0 [] none rfl (zl _) (zl _);simp only[List.map_nil,bc,gu,List.append_nil,List.cons_append,List.nil_append,strE] at h;unfold jr;simp(disch:=first|exact yi|fail) only[go_sem,X_ae,c_ae,y9,d_a,len9,cst8,Int.reduceLE,Int.reduceLT,Int.reduceToNat,Nat.reduceMul,and_self,if_true]
 refine h.trans ?_;clear h;have hS:=ae 7 o;have hL:=de 7 o;generalize boxI 7 o=T at *;cases p.a with
 |nil=>simp(disch:=first|exact yi|fail) only[go_sem,X_ae,List.map_nil,bc,hS,hL]
 |cons y r=>simp(disch:=first|exact yi|fail) only[go_sem,X_ae,List.map_cons,bo,hS,hL]
theorem len2' (a b:D):[a,b].length=2:=rfl
def tM (l:List Fld) (k:Nat):List UInt8:=((lastM l k 2).getD fld0).b
def pairD (l:List Fld):D:= .agg [.str (tM l 1),.sl ((tM l 2).map byteD)]
def pairOk (l:List Fld):Prop:=l.length≤1000000∧∀ f∈l,f.b.length≤1000000
abbrev prE (ls:List (List Fld)) (i:Nat) (acc:List (List Fld)):List (Nat×V):=[(4,ownZ 2 (acc.map pairD)),(18,.d (.sl (ls.map fldsD))),(19,.d (.int .i64 ((ls.length:Int)))),(20,.d (.int .i64 ((i:Int))))]
theorem ownPr (acc:List (List Fld)) (f:List Fld):ownZ 2 ((acc++[f]).map pairD)= .own false 2 (acc.map pairD++[pairD f]):=by
 rw[List.map_append,List.map_cons,List.map_nil,j4]
theorem aq0 (ls:List (List Fld)) (i:Nat) (l:List Fld) (acc:List (List Fld)) (hl:ls[i]? =some l) (hi:i<ls.length) (hn:ls.length≤1024) (ha:acc.length≤i) (hs:pairOk l) (x0 x1 x2 x3 x4 x5 x6 x7 x8:D) (K:List Kf):
  go X_ah (.c (.loop sc)::K) ⟨prE ls i acc,b9 1 x0 x1 x2 x3 x4 x5 x6 x7 x8⟩=
   go X_ah (.c (.loop sc)::K) ⟨prE ls (i+1) (acc++[l]),b9 1 x0 x1 x2 x3 x4 x5 x6 x7 x8⟩:=by
 have d_a:decide ((i:Int)<ls.length)=true:=by simp<;>omega
 obtain⟨s0,s1⟩:=hs;have n1:evL cfg n_bt 0 [.d (.sl (l.map Fld.d)),.d (.int .i64 (1))] []=some (textD (lastM l 1 2),[]):=lr l 1 s0 s1;have n2:evL cfg n_bt 0 [.d (.sl (l.map Fld.d)),.d (.int .i64 (2))] []=some (textD (lastM l 2 2),[]):=lr l 2 s0 s1;unfold textD at n1 n2;simp only[prE,b9,ownPr];unfold pairD tM;generalize lastM l 1 2=o1 at *;generalize lastM l 2 2=o2 at *;generalize(o1.getD fld0).b=t1 at *;generalize(o2.getD fld0).b=t2 at*
 conv=>lhs;rw[go_loop]
 cases acc with
 | nil=>
  simp(disch:=first|exact yi|fail) only[go_sem,X_ah,d_a,hl,fldsD,List.map_nil,bc,n1,n2,List.nil_append,Int.natCast_add,len2']
 | cons y acc=>
  simp only[List.length_cons] at ha;simp(disch:=first|exact yi|fail) only[go_sem,X_ah,d_a,hl,fldsD,List.map_cons,bo,n1,n2,List.cons_append,List.length_cons,y9,Int.natCast_add,len2']
theorem tr (ls:List (List Fld)) (hn:ls.length≤1024) (hw:∀ l∈ls,pairOk l) (x0 x1 x2 x3 x4 x5 x6 x7 x8:D) (K:List Kf):∀ (r:List (List Fld)) (i:Nat) (acc:List (List Fld)),ls.drop i=r→i≤ls.length→acc.length≤i→
  go X_ah (.c (.loop sc):: .b 0::K) ⟨prE ls i acc,b9 1 x0 x1 x2 x3 x4 x5 x6 x7 x8⟩=go X_ah K ⟨prE ls ls.length (acc++r)++[(21,.d (.bool (false)))],b9 1 x0 x1 x2 x3 x4 x5 x6 x7 x8⟩
 | [],i,acc,hr,hi,hs=>by
  have:=iw hr;have:i=ls.length:=yj;subst this;have d_a:decide ((ls.length:Int)<ls.length)=false:=by simp<;>omega
  rw[List.append_nil];rw[go_loop];simp only[List.cons_append,List.nil_append];simp(disch:=first|exact yi|fail) only[go_sem,X_ah,d_a,bp]
 | l::r,i,acc,hr,hi,hs=>by
  obtain⟨h1,h2,h3⟩:=ll hr;have hm:l∈ls:=List.mem_of_getElem? h2;have ih:=tr ls hn hw x0 x1 x2 x3 x4 x5 x6 x7 x8 K r (i+1) (acc++[l]) h3 h1 (by simp;omega)
  rw[zm,List.singleton_append] at ih;exact Eq.trans (aq0 ls i l acc h2 h1 hn hs (hw l hm) x0 x1 x2 x3 x4 x5 x6 x7 x8 _) ih
theorem azn (p:Parts) (hn:p.c.length≤32) (hw:∀ l∈p.c,pairOk l):evL cfg n_ah 0 [.d (jr p)] []=some (.d (.tup [.sl (p.c.map pairD),.bool true]),[]):=by
 rw[o_ah];have d_a:decide ((p.c.length:Int)>32)=false:=by simp<;>omega
 have h:=tr p.c yj hw (.sl []) (.sl []) (.sl []) (.sl (p.a.map fldsD)) (.sl (p.b.map fldsD)) (.sl (p.c.map fldsD)) (.sl []) (.sl (p.e.map fldsD)) (.sl (p.st.map r8)) [.c (.seq af0 .ret)] p.c 0 [] rfl (zl _) (zl _);simp only[List.map_nil,bc,List.cons_append,List.nil_append,prE] at h;unfold jr;simp(disch:=first|exact yi|fail) only[go_sem,X_ah,c_ah,y9,d_a,len9,cst8,Int.reduceLE,Int.reduceLT,Int.reduceToNat,Nat.reduceMul,and_self,if_true]
 refine h.trans ?_;clear h;cases p.c with
 |nil=>simp(disch:=first|exact yi|fail) only[go_sem,X_ah,List.map_nil,bc]
 |cons y r=>simp(disch:=first|exact yi|fail) only[go_sem,X_ah,List.map_cons,bo]
set_option maxRecDepth 100000
abbrev i0:D:= .int .i64 0
abbrev nodD:D:= .agg [.int .i64 12,.sl [],.sl [],i0,i0,i0,i0,i0]
abbrev typD:D:= .agg [.int .i64 12,.sl [],.sl [],i0,i0,i0]
abbrev colD:D:= .agg [.int .i64 12,.sl [],.sl [],i0,i0,i0,.int .i64 (-1),.int .i64 1]
theorem node_one:evL cfg n_cx 0 [.d (.sl [Fld.d ⟨1,0,12,[],0⟩])] []=some (.d (.tup [nodD,.int .i64 0]),[]):=ap (n:=20) yk
theorem a1m:evL cfg n_cu 0 [.d (.sl [nodD])] []=some (.d (.tup [typD,.int .i64 0]),[]):=ap (n:=20) yk
theorem flat_one:evL cfg n_co 0 [.d typD] []=some (.d (.sl [colD]),[]):=ap (n:=20) yk
theorem len8 (a b c d e f g h:D):[a,b,c,d,e,f,g,h].length=8:=rfl
theorem tree_one (p:Parts) (hb:p.b=[[⟨1,0,12,[],0⟩]]):evL cfg n_ao 0 [.d (jr p)] []=some (.d (.tup [typD,.int .i64 0]),[]):=by
 rw[o_ao];unfold jr;rw[hb];have h1:=node_one;have h2:=a1m;simp only[List.map_nil,List.map_cons,show fldsD [⟨1,0,12,[],0⟩]= .sl [Fld.d ⟨1,0,12,[],0⟩] from rfl]
 generalize Fld.d ⟨1,0,12,[],0⟩=f at *;simp(disch:=first|exact yi|fail) only[go_sem,X_ao,c_ao,len9,cst8,Int.reduceLE,Int.reduceLT,Int.reduceToNat,Nat.reduceMul,and_self,if_true]
 conv=>lhs;rw[go_loop]
 simp(disch:=first|exact yi|fail) only[go_sem,X_ao,h1,h2,len8,Int.reduceLT,decide_true]
 conv=>lhs;rw[go_loop]
 simp(disch:=first|exact yi|fail) only[go_sem,X_ao,h1,h2,len8,Int.reduceLT,decide_false,List.nil_append]
abbrev bF:D:= .bool false
abbrev jq:D:= .agg [i0,bF,bF,bF,i0,i0,.sl [],.sl [],bF,i0,i0,.sl [],.sl [],bF,i0]
theorem len15 (a b c d e f g h i j k l m n o:D):[a,b,c,d,e,f,g,h,i,j,k,l,m,n,o].length=15:=rfl
theorem tk8 (a b c d e f g h:D):List.take 8 [a,b,c,d,e,f,g,h]=[a,b,c,d,e,f,g,h]:=rfl
def stat0:List UInt8:=[8,0,80,0]
theorem stat_one:evL cfg n_cn 0 [.d colD,.d (.sl ((stat0).map byteD))] []=some (.d (.tup [jq,.int .i64 0]),[]):=ap (n:=20) yk
theorem az9 (p:Parts) (hp:p.st=[stat0]):evL cfg n_aj 0 [.d (jr p),.d (.sl [colD])] []=some (.d (.tup [.sl [jq],.int .i64 0]),[]):=by
 rw[o_aj];unfold jr;rw[hp];have hr:=stat_one;generalize stat0=b at *;simp only[List.map_nil,List.map_cons,show r8 b= .sl (b.map byteD) from rfl]
 simp(disch:=first|exact yi|fail) only[go_sem,X_aj,c_aj,len9,Int.reduceGT,decide_true]
 conv=>lhs;rw[go_loop]
 simp(disch:=first|exact yi|fail) only[go_sem,X_aj,Int.reduceLT,decide_true,hr,len15,len8,tk8]
 conv=>lhs;rw[go_loop]
 simp(disch:=first|exact yi|fail) only[go_sem,X_aj,Int.reduceLT,decide_false,List.nil_append]
structure FootOk (l:List UInt8) (fs:List Fld) (p:Parts):Prop where
 len:l.length≤1000000
 parse:aw l=(fs,0)
 want:∀ f∈fs,wantF f
 parts:splM fs oa=p
 n2:uM fs 2≤262144
 n6:uM fs 6≤262144
 n8:uM fs 8≤262144
 stripes:p.a.length≤1024
 stripe:∀ l∈p.a,strOk l
 types:p.b=[[⟨1,0,12,[],0⟩]]
 pairs:p.c.length≤32
 pair:∀ l∈p.c,pairOk l
def footD (fs:List Fld) (p:Parts) (sts:List D):D:= .agg [.int .i64 ((uM fs 2:Nat):Int),.sl (p.a.map strD),.int .i64 12,.sl [],.sl [],i0,i0,i0,.sl (p.c.map pairD),.int .i64 ((uM fs 6:Nat):Int),.sl sts,.int .i64 ((uM fs 8:Nat):Int)]
theorem len12 (a b c d e f g h i j k l:D):[a,b,c,d,e,f,g,h,i,j,k,l].length=12:=rfl
theorem len6 (a b c d e f:D):[a,b,c,d,e,f].length=6:=rfl
theorem rf {l:List UInt8} {fs:List Fld} {p:Parts} (h:FootOk l fs p) (sts:List D) (hk:evL cfg n_aj 0 [.d (jr p),.d (.sl [colD])] []=some (.d (.tup [.sl sts,.int .i64 0]),[])):evL cfg n_ag 0 [.d (.sl ((l).map byteD))] []=some (.d (.tup [footD fs p sts,.int .i64 0]),[]):=by
 obtain⟨h1,h2,h3,h4,h5,h6,h7,h8,h9,h10,h11,h12⟩:=h;rw[o_ag];have g1:=di l h1;have ok:=azm l;rw[h2] at ok;obtain⟨ok1,ok2⟩:=ok;simp only at ok1 ok2;unfold o9 at g1;rw[h2] at g1;simp only at g1;have g2:=sx fs yj (fun f hf=>ze (ok1 f hf) h1) h3
 rw[h4] at g2;have g3:evL cfg n_bg 0 [.d (.sl (fs.map Fld.d)),.d (.int .i64 (2))] []=some (.d (.tup [.int .i64 ((uM fs 2:Nat):Int),.bool true]),[]):=a9 fs 2 yj h5;have g4:=afb p h8 h9;have g5:=tree_one p h10;have g6:=azn p h11 h12;have g7:evL cfg n_bg 0 [.d (.sl (fs.map Fld.d)),.d (.int .i64 (6))] []=some (.d (.tup [.int .i64 ((uM fs 6:Nat):Int),.bool true]),[]):=a9 fs 6 yj h6;have g8:evL cfg n_bg 0 [.d (.sl (fs.map Fld.d)),.d (.int .i64 (8))] []=some (.d (.tup [.int .i64 ((uM fs 8:Nat):Int),.bool true]),[]):=a9 fs 8 yj h7;have g9:=flat_one;unfold footD;unfold jr at g2 g4 g5 g6 hk;generalize uM fs 2=u2 at *;generalize uM fs 6=u6 at *;generalize uM fs 8=u8 at *;simp(disch:=first|exact yi|fail) only[go_sem,X_ag,c_ag,g1,g2,len9,len12,len6,g3,g4,g5,g6,g7,g8,g9,hk]
set_option maxRecDepth 100000
def nod0:D:= .agg [.int .i64 12,.sl [],.sl [],i0,i0,i0,.sl [],.int .i64 (-1),.int .i64 1]
theorem gp (s:Get) (dst:Option Nat) (z:Nat) (x:IOpd) (c d e:D) (r:List D):evIdx s dst z x (.d (.sl (c::d::e::r))) 2=if e.cells.length=z then some (put1 dst (.iptr e 0)) else none:=by
 rw[p8 _ _ _ _ yj];rfl
theorem ownBy {acc:List UInt8} (h:acc≠[]):ownZ 1 (acc.map byteD)= .own false 1 (acc.map byteD):=by
 cases acc with
 |nil=>exact absurd rfl h
 |cons y r=>rfl
theorem flat_ans:evL cfg n_cm 0 [.d .nilS,.d typD,.d (.int .i64 (-1)),.d (.int .i64 (1))] []=some (.own false 9 [nod0],[]):=ap (n:=1) rfl
theorem nv:evL cfg n_bp 0 [.d typD] []=some (.d (.int .i64 (0)),[]):=ap (n:=20) yk
theorem qq:evL cfg n_ba 0 [.d typD] []=some (.own false 9 [nod0],[]):=by
 have h:=flat_ans;have hc:=nv;rw[o_ba];unfold typD at *;simp(disch:=first|exact yi|fail) only[go_sem,X_ba,c_ba,h,hc]
theorem mn (b:List UInt8) (hb:b.length≤400000):evL cfg n_ac 0 [ownZ 1 (b.map byteD),.d typD] []=some (.own false 1 ((b++ag 4 (uintF 1 12)).map byteD),[]):=by
 have hf:=qq;have g1:evL cfg n_av 0 [.d .nilS,.d (.int .i64 (1)),.d (.int .u64 (12))] []=some (.own false 1 ((uintF 1 12).map byteD),[]):=da (num:=1) (v:=12) yj yj yj;have q1:=av 1 12;have z2:((0:Int) !=0)=false:=rfl;by_cases hz:b=[]
 · subst hz
   have hp:evL cfg n_ax 0 [.d .nilS,.d (.int .i64 (4)),.d (.sl ((uintF 1 12).map byteD))] []=some (.own false 1 ((ag 4 (uintF 1 12)).map byteD),[]):=nr (num:=4) yj yj yj;generalize uintF 1 12=x at *;simp only[List.map_nil,bc,List.nil_append];rw[o_ac];unfold typD nod0 at *;simp(disch:=first|exact yi|fail) only[go_sem,X_ac,c_ac,hf]
   rw[go_loop];simp(disch:=first|exact yi|fail) only[go_sem,X_ac,g1,Int.reduceLT,decide_true]
   rw[go_loop];simp(disch:=first|exact yi|fail) only[go_sem,X_ac,Int.reduceLT,Int.reduceGT,decide_false]
   rw[go_loop];simp(disch:=first|exact yi|fail) only[go_sem,X_ac,Int.reduceLT,decide_false]
   rw[go_loop];simp(disch:=first|exact yi|fail) only[go_sem,X_ac,Int.reduceLT,decide_true,z2]
   rw[go_loop];simp(disch:=first|exact yi|fail) only[go_sem,X_ac,Int.reduceLT,decide_true,z2]
   rw[go_loop];simp(disch:=first|exact yi|fail) only[go_sem,X_ac,Int.reduceLT,decide_true,gp,z2]
   rw[go_loop];simp(disch:=first|exact yi|fail) only[go_sem,X_ac,Int.reduceLT,decide_false,hp]
   rw[go_loop];simp(disch:=first|exact yi|fail) only[go_sem,X_ac,Int.reduceLT,decide_false]
 · have hp:evL cfg n_ax 0 [.own false 1 (b.map byteD),.d (.int .i64 (4)),.d (.sl ((uintF 1 12).map byteD))] []=some (.own false 1 ((b++ag 4 (uintF 1 12)).map byteD),[]):=bv (num:=4) yj yj yj yj
   generalize uintF 1 12=x at *;rw[ownBy hz,show evL cfg n_ac 0 [.own false 1 (b.map byteD),.d typD] []=go X_ac [.c c_ac] ⟨[(0,.own false 1 (b.map byteD)),(1,.d typD)],[]⟩ from au (fn:=i_ac) rfl rfl _ _ _ rfl rfl]
   unfold typD nod0 at *;simp(disch:=first|exact yi|fail) only[go_sem,X_ac,c_ac,hf]
   rw[go_loop];simp(disch:=first|exact yi|fail) only[go_sem,X_ac,g1,Int.reduceLT,decide_true]
   rw[go_loop];simp(disch:=first|exact yi|fail) only[go_sem,X_ac,Int.reduceLT,Int.reduceGT,decide_false]
   rw[go_loop];simp(disch:=first|exact yi|fail) only[go_sem,X_ac,Int.reduceLT,decide_false]
   rw[go_loop];simp(disch:=first|exact yi|fail) only[go_sem,X_ac,Int.reduceLT,decide_true,z2]
   rw[go_loop];simp(disch:=first|exact yi|fail) only[go_sem,X_ac,Int.reduceLT,decide_true,z2]
   rw[go_loop];simp(disch:=first|exact yi|fail) only[go_sem,X_ac,Int.reduceLT,decide_true,gp,z2]
   rw[go_loop];simp(disch:=first|exact yi|fail) only[go_sem,X_ac,Int.reduceLT,decide_false,hp]
   rw[go_loop];simp(disch:=first|exact yi|fail) only[go_sem,X_ac,Int.reduceLT,decide_false]
abbrev Cr:=Nat×Nat×Nat×List UInt8
def addC (p:Parts) (c:Cr):Parts:=
 if c.2.1≠2 then p else
 if c.1=7 then {p with e:=p.e++[(aw c.2.2.2).1],st:=p.st++[c.2.2.2]} else
 if c.1=3 then {p with a:=p.a++[(aw c.2.2.2).1]} else
 if c.1=4 then {p with b:=p.b++[(aw c.2.2.2).1]} else
 if c.1=5 then {p with c:=p.c++[(aw c.2.2.2).1]} else p
theorem xv:∀ (fs:List Fld) (p:Parts),splM fs p=(fs.map Fld.core).foldl addC p
 | [],_=>rfl
 |f::r,p=>by rw[splM,List.map_cons,List.foldl_cons,xv r];rfl
def wantC (c:Cr):Prop:=c.2.1=2→(c.1=7∨c.1=3∨c.1=4∨c.1=5)→(aw c.2.2.2).2=0
theorem asj {fs:List Fld} (h:∀ c∈fs.map Fld.core,wantC c):∀ f∈fs,wantF f:=fun f hf=>h f.core (zz.2 ⟨f,hf,rfl⟩)
theorem qe (cs:List Cr) (c:Cr) (k:Nat):uC (cs++[c]) k=if c.1=k∧c.2.1=0 then c.2.2.1 else uC cs k:=by
 unfold uC;rw[List.reverse_append,List.reverse_cons,List.reverse_nil,List.nil_append,List.singleton_append,List.find?_cons];by_cases h:c.1=k∧c.2.1=0
 · rw[if_pos h,show(c.1==k&&c.2.1==0)=true by simp[h]]
 · rw[if_neg h,show(c.1==k&&c.2.1==0)=false by
  rw[Bool.and_eq_false_iff];simp only[beq_eq_false_iff_ne,ne_eq];rcases Decidable.not_and_iff_not_or_not.1 h with h|h
  · exact .inl h
  · exact .inr h]
theorem asm (cs ds:List Cr) (k:Nat) (h:∀ c∈ds,¬ (c.1=k∧c.2.1=0)):uC (cs++ds) k=uC cs k:=by
 induction ds generalizing cs with
 |nil=>rw[List.append_nil]
 | cons d r ih=>
  rw[show cs++d::r=(cs++[d])++r by simp,ih _ (fun c hc=>h c (by simp[hc])),qe,if_neg (h d yl)]
set_option maxRecDepth 100000
abbrev I5:=Int×Int×Int×Int×Int
def s5D (s:I5):D:= .agg [.int .i64 s.1,.int .i64 s.2.1,.int .i64 s.2.2.1,.int .i64 s.2.2.2.1,.int .i64 s.2.2.2.2]
def inB (n:Int):Bool:=decide (n≥0)&&decide (n≤262144)
def okB (s:I5):Bool:=inB s.1&&inB s.2.1&&inB s.2.2.1&&inB s.2.2.2.1&&inB s.2.2.2.2
theorem bx (n:Int):evL cfg n_bh 0 [.d (.int .i64 (n))] []=some (.d (.bool (inB n)),[]):=by
 rw[o_bh];unfold inB;by_cases h:n≥0
 · have d_a:decide (n≥0)=true:=by simp<;>omega
   simp(disch:=first|exact yi|fail) only[go_sem,X_bh,c_bh,d_a,Bool.true_and]
 · have d_a:decide (n≥0)=false:=by simp<;>omega
   simp(disch:=first|exact yi|fail) only[go_sem,X_bh,c_bh,d_a,Bool.false_and]
abbrev bQ (L:List D) (rows:Int) (S:D):List (Cel×V):=[(⟨0,1,0⟩,.d (.int .i64 (0))),(⟨0,1,1⟩,.d (.sl L)),(⟨0,1,2⟩,.d (.int .i64 (12))),(⟨0,1,3⟩,.d (.sl [])),(⟨0,1,4⟩,.d (.sl [])),(⟨0,1,5⟩,.d (.int .i64 (0))),(⟨0,1,6⟩,.d (.int .i64 (0))),(⟨0,1,7⟩,.d (.int .i64 (0))),(⟨0,1,8⟩,.d (.sl [])),(⟨0,1,9⟩,.d (.int .i64 (rows))),(⟨0,1,10⟩,.d (.sl [S])),(⟨0,1,11⟩,.d (.int .i64 (0)))]
abbrev okE (C:List D) (b:Bool) (i:Int):List (Nat×V):=[(1,.ref 0 1 0),(4,.d (.sl C)),(5,.d (.bool (b))),(6,.d (.int .i64 (i)))]
theorem ok_step (L:List D) (hn:L.length≤1024) (rows:Int) (S:D) (C:List D) (i:Nat) (s:I5) (hs:L[i]? =some (s5D s)) (hi:i<L.length) (o:Option I5) (K:List Kf):
   go X_aa (.c (.loop oy)::K) ⟨okE C true i,bQ L rows S++boxI 7 o⟩=
    go X_aa (.c (.loop oy)::K) ⟨okE C (okB s) ((i:Int)+1),bQ L rows S++boxI 7 (some s)⟩:=by
 have d_a:decide ((i:Int)<L.length)=true:=by simp<;>omega
 obtain⟨s1,s2,s3,s4,s5⟩:=s;have n1:=bx s1;have n2:=bx s2;have n3:=bx s3;have n4:=bx s4;have n5:=bx s5;have hS:=ae 7 o;have hF:=dk 7 o;unfold okB;generalize boxI 7 o=T at *;simp only[okE,bQ,List.cons_append,List.nil_append,boxI];unfold s5D at hs;generalize inB s1=t1 at *;generalize inB s2=t2 at *;generalize inB s3=t3 at *;generalize inB s4=t4 at *;generalize inB s5=t5 at*
 conv=>lhs;rw[go_loop]
 cases t1
 · simp(disch:=first|exact yi|fail) only[go_sem,X_aa,d_a,hS,hF,hs,n1,len5,take5,Bool.false_and]
 cases t2
 · simp(disch:=first|exact yi|fail) only[go_sem,X_aa,d_a,hS,hF,hs,n1,n2,len5,take5,Bool.false_and,Bool.true_and]
 cases t3
 · simp(disch:=first|exact yi|fail) only[go_sem,X_aa,d_a,hS,hF,hs,n1,n2,n3,len5,take5,Bool.false_and,Bool.true_and]
 cases t4
 · simp(disch:=first|exact yi|fail) only[go_sem,X_aa,d_a,hS,hF,hs,n1,n2,n3,n4,len5,take5,Bool.false_and,Bool.true_and]
 simp(disch:=first|exact yi|fail) only[go_sem,X_aa,d_a,hS,hF,hs,n1,n2,n3,n4,n5,len5,take5,Bool.false_and,Bool.true_and]
theorem ahl (L:List D) (hn:L.length≤1024) (rows:Int) (S:D) (C:List D) (i:Int) (b:Bool) (h:b=true→¬ i<L.length) (o:Option I5) (K:List Kf):
   go X_aa (.c (.loop oy):: .b 0::K) ⟨okE C b i,bQ L rows S++boxI 7 o⟩=
    go X_aa K ⟨okE C b i++[(65,.d (.bool (false)))],bQ L rows S++boxI 7 o⟩:=by
 have hS:=ae 7 o;generalize boxI 7 o=T at *;simp only[okE,bQ,List.cons_append,List.nil_append];rw[go_loop];by_cases c:i<L.length
 · have hb:b=false:=by cases b<;>simp_all
   subst hb;have d_a:decide (i<L.length)=true:=by simp<;>omega
   simp(disch:=first|exact yi|fail) only[go_sem,X_aa,d_a,hS]
 · have d_a:decide (i<L.length)=false:=by simp<;>omega
   simp(disch:=first|exact yi|fail) only[go_sem,X_aa,d_a,hS]
theorem ahm (l:List I5) (hn:l.length≤1024) (rows:Int) (S:D) (C:List D) (K:List Kf):∀ (r:List I5) (i:Nat) (o:Option I5),l.drop i=r→i≤l.length→
  ∃ (j:Int) (o':Option I5),go X_aa (.c (.loop oy):: .b 0::K) ⟨okE C true i,bQ (l.map s5D) rows S++boxI 7 o⟩=
    go X_aa K ⟨okE C (r.all okB) j++[(65,.d (.bool (false)))],bQ (l.map s5D) rows S++boxI 7 o'⟩
 | [],i,o,hr,hi=>by
  have:=iw hr;exact⟨i,o,ahl _ (by simpa using hn) rows S C i true (fun _=>by rw[y9];omega) o K⟩
 | s::r,i,o,hr,hi=>by
  obtain⟨h1,h2,h3⟩:=ll hr;have st:=ok_step (l.map s5D) (by simpa using hn) rows S C i s (by rw[yw,h2];rfl) (by simpa using h1) o (.b 0::K)
  rw[List.all_cons];cases hb:okB s
  · rw[hb] at st
    rw[Bool.false_and];exact⟨_,_,st.trans (ahl _ (by simpa using hn) rows S C _ false (fun h=>by cases h) _ K)⟩
  · rw[hb] at st
    rw[Bool.true_and];obtain⟨j,o',ih⟩:=ahm l hn rows S C K r (i+1) (some s) h3 h1;rw[show((i+1:Nat):Int)=(i:Int)+1 by omega] at ih
    exact⟨j,o',st.trans ih⟩
