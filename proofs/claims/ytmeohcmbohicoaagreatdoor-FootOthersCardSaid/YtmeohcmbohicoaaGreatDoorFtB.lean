import Derived.Test.YtmeohcmbohicoaaGreatDoorFtA
namespace Go.Proofs.YtmeohcmbohicoaaGreatDoor
open Go Go.Ev
set_option maxHeartbeats 4000000
theorem ao (fs:List Fld) (num:Nat) (hn:fs.length≤1000000) (hu:uM fs num≤262144):evL cfg n_bo 0 [.d (.sl (fs.map Fld.d)),.d (.int .i64 ((num:Int)))] []=some (.d (.tup [.int .i64 ((uM fs num:Nat):Int),.bool true]),[]):=by
 rw[o_bo];have h:=j3 fs num hn;unfold uintD at h;unfold uM at hu ⊢;generalize lastM fs num 0=o at *;generalize(o.getD fld0).u=u at *;have d_a:decide ((u:Int)>262144)=false:=by simp<;>omega
 simp(disch:=first|exact vm|fail) only[go_sem,X_bo,c_bo,h,d_a]
def boxI (k:Nat):Option (Int×Int×Int×Int×Int)→List (Cel×V)
 |none=>[]
 |some (a,b,c,d,e)=>[(⟨0,k,0⟩,.d (.int .i64 (a))),(⟨0,k,1⟩,.d (.int .i64 (b))),(⟨0,k,2⟩,.d (.int .i64 (c))),(⟨0,k,3⟩,.d (.int .i64 (d))),(⟨0,k,4⟩,.d (.int .i64 (e)))]
theorem a8i (k:Nat):boxI k none=[]:=rfl
theorem awt (k:Nat) (o:Option (Int×Int×Int×Int×Int)):freeM 0 k (boxI k o)=[]:=by
 cases o with
 |none=>rfl
 |some f=>simp only[boxI,jq,lf,true_and,if_true]
theorem ij (k:Nat) (o:Option (Int×Int×Int×Int×Int)):settleM 0 (boxI k o)=boxI k o:=by cases o<;>rfl
theorem aju (k:Nat) (o:Option (Int×Int×Int×Int×Int)):leaveM 0 (boxI k o)=[]:=by cases o<;>rfl
def strD (l:List Fld):D:= .agg [.int .i64 ((uM l 1:Nat):Int),.int .i64 ((uM l 2:Nat):Int),.int .i64 ((uM l 3:Nat):Int),.int .i64 ((uM l 4:Nat):Int),.int .i64 ((uM l 5:Nat):Int)]
def strB (l:List Fld):Int×Int×Int×Int×Int:=((uM l 1:Nat),(uM l 2:Nat),(uM l 3:Nat),(uM l 4:Nat),(uM l 5:Nat))
def strOk (l:List Fld):Prop:=l.length≤1000000∧uM l 1≤262144∧uM l 2≤262144∧uM l 3≤262144∧uM l 4≤262144∧uM l 5≤262144
abbrev strE (ls:List (List Fld)) (i:Nat) (acc:List (List Fld)):List (Nat×V):=[(4,ownZ 5 (acc.map strD)),(19,.d (.sl (ls.map fldsD))),(20,.d (.int .i64 ((ls.length:Int)))),(21,.d (.int .i64 ((i:Int))))]
abbrev b9 (k:Nat) (x0 x1 x2 x3 x4 x5 x6 x7 x8:D):List (Cel×V):=[(⟨0,k,0⟩,.d x0),(⟨0,k,1⟩,.d x1),(⟨0,k,2⟩,.d x2),(⟨0,k,3⟩,.d x3),(⟨0,k,4⟩,.d x4),(⟨0,k,5⟩,.d x5),(⟨0,k,6⟩,.d x6),(⟨0,k,7⟩,.d x7),(⟨0,k,8⟩,.d x8)]
theorem ownSt (acc:List (List Fld)) (f:List Fld):ownZ 5 ((acc++[f]).map strD)= .own false 5 (acc.map strD++[strD f]):=by
 rw[List.map_append,List.map_cons,List.map_nil,bt]
theorem ux (ls:List (List Fld)) (i:Nat) (l:List Fld) (acc:List (List Fld)) (o:Option (Int×Int×Int×Int×Int)) (hl:ls[i]? =some l) (hi:i<ls.length) (hn:ls.length≤1024) (ha:acc.length≤i) (hs:strOk l) (x0 x1 x2 x3 x4 x5 x6 x7 x8:D) (K:List Kf):
  go X_ah (.c (.loop qh)::K) ⟨strE ls i acc,b9 1 x0 x1 x2 x3 x4 x5 x6 x7 x8++boxI 7 o⟩=
   go X_ah (.c (.loop qh)::K) ⟨strE ls (i+1) (acc++[l]),b9 1 x0 x1 x2 x3 x4 x5 x6 x7 x8++boxI 7 (some (strB l))⟩:=by
 have d_a:decide ((i:Int)<ls.length)=true:=by simp<;>omega
 obtain⟨s0,s1,s2,s3,s4,s5⟩:=hs;have n1:evL cfg n_bo 0 [.d (.sl (l.map Fld.d)),.d (.int .i64 (1))] []=some (.d (.tup [.int .i64 ((uM l 1:Nat):Int),.bool true]),[]):=ao l 1 s0 s1;have n2:evL cfg n_bo 0 [.d (.sl (l.map Fld.d)),.d (.int .i64 (2))] []=some (.d (.tup [.int .i64 ((uM l 2:Nat):Int),.bool true]),[]):=ao l 2 s0 s2;have n3:evL cfg n_bo 0 [.d (.sl (l.map Fld.d)),.d (.int .i64 (3))] []=some (.d (.tup [.int .i64 ((uM l 3:Nat):Int),.bool true]),[]):=ao l 3 s0 s3;have n4:evL cfg n_bo 0 [.d (.sl (l.map Fld.d)),.d (.int .i64 (4))] []=some (.d (.tup [.int .i64 ((uM l 4:Nat):Int),.bool true]),[]):=ao l 4 s0 s4;have n5:evL cfg n_bo 0 [.d (.sl (l.map Fld.d)),.d (.int .i64 (5))] []=some (.d (.tup [.int .i64 ((uM l 5:Nat):Int),.bool true]),[]):=ao l 5 s0 s5;have hS:=ij 7 o;have hF:=awt 7 o;generalize boxI 7 o=T at *;simp only[strE,b9,strB,List.cons_append,List.nil_append,boxI,ownSt];unfold strD;generalize uM l 1=u1 at *;generalize uM l 2=u2 at *;generalize uM l 3=u3 at *;generalize uM l 4=u4 at *;generalize uM l 5=u5 at*
 conv=>lhs;rw[go_loop]
 cases acc with
 | nil=>
  simp(disch:=first|exact vm|fail) only[go_sem,X_ah,d_a,hS,hF,hl,fldsD,List.map_nil,af,List.nil_append]
  conv=>lhs;rw[go_loop]
  simp(disch:=first|exact vm|fail) only[go_sem,X_ah,hS,n1,cst5,Int.reduceLT,decide_true]
  conv=>lhs;rw[go_loop]
  simp(disch:=first|exact vm|fail) only[go_sem,X_ah,hS,n2,cst5,Int.reduceLT,decide_true]
  conv=>lhs;rw[go_loop]
  simp(disch:=first|exact vm|fail) only[go_sem,X_ah,hS,n3,cst5,Int.reduceLT,decide_true]
  conv=>lhs;rw[go_loop]
  simp(disch:=first|exact vm|fail) only[go_sem,X_ah,hS,n4,cst5,Int.reduceLT,decide_true]
  conv=>lhs;rw[go_loop]
  simp(disch:=first|exact vm|fail) only[go_sem,X_ah,hS,n5,cst5,Int.reduceLT,decide_true]
  conv=>lhs;rw[go_loop]
  simp(disch:=first|exact vm|fail) only[go_sem,X_ah,hS,cst5,Int.reduceLT,decide_false,Int.natCast_add,List.nil_append,len5]
 | cons y acc=>
  simp only[List.length_cons] at ha;simp(disch:=first|exact vm|fail) only[go_sem,X_ah,d_a,hS,hF,hl,fldsD,List.map_cons,ak,List.cons_append]
  conv=>lhs;rw[go_loop]
  simp(disch:=first|exact vm|fail) only[go_sem,X_ah,hS,n1,cst5,Int.reduceLT,decide_true]
  conv=>lhs;rw[go_loop]
  simp(disch:=first|exact vm|fail) only[go_sem,X_ah,hS,n2,cst5,Int.reduceLT,decide_true]
  conv=>lhs;rw[go_loop]
  simp(disch:=first|exact vm|fail) only[go_sem,X_ah,hS,n3,cst5,Int.reduceLT,decide_true]
  conv=>lhs;rw[go_loop]
  simp(disch:=first|exact vm|fail) only[go_sem,X_ah,hS,n4,cst5,Int.reduceLT,decide_true]
  conv=>lhs;rw[go_loop]
  simp(disch:=first|exact vm|fail) only[go_sem,X_ah,hS,n5,cst5,Int.reduceLT,decide_true]
  conv=>lhs;rw[go_loop]
  simp(disch:=first|exact vm|fail) only[go_sem,X_ah,hS,cst5,Int.reduceLT,decide_false,Int.natCast_add,List.cons_append,List.length_cons,vu,len5]
theorem mu (ls:List (List Fld)) (hn:ls.length≤1024) (hw:∀ l∈ls,strOk l) (x0 x1 x2 x3 x4 x5 x6 x7 x8:D) (K:List Kf):∀ (r:List (List Fld)) (i:Nat) (acc:List (List Fld)) (o:Option (Int×Int×Int×Int×Int)),ls.drop i=r→i≤ls.length→acc.length≤i→
  ∃ o',go X_ah (.c (.loop qh):: .b 0::K) ⟨strE ls i acc,b9 1 x0 x1 x2 x3 x4 x5 x6 x7 x8++boxI 7 o⟩=go X_ah K ⟨strE ls ls.length (acc++r)++[(22,.d (.bool (false)))],b9 1 x0 x1 x2 x3 x4 x5 x6 x7 x8++boxI 7 o'⟩
 | [],i,acc,o,hr,hi,hs=>by
  have:=br hr;have:i=ls.length:=vn;subst this;refine⟨o,?_⟩;have d_a:decide ((ls.length:Int)<ls.length)=false:=by simp<;>omega
  have hS:=ij 7 o;rw[List.append_nil];generalize boxI 7 o=T at *;rw[go_loop];simp only[List.cons_append,List.nil_append];simp(disch:=first|exact vm|fail) only[go_sem,X_ah,d_a,hS,ab]
 | l::r,i,acc,o,hr,hi,hs=>by
  obtain⟨h1,h2,h3⟩:=cc hr;have hm:l∈ls:=List.mem_of_getElem? h2;obtain⟨o',ih⟩:=mu ls hn hw x0 x1 x2 x3 x4 x5 x6 x7 x8 K r (i+1) (acc++[l]) (some (strB l)) h3 h1 (by simp;omega)
  rw[wh,List.singleton_append] at ih;exact⟨o',Eq.trans (ux ls i l acc o h2 h1 hn hs (hw l hm) x0 x1 x2 x3 x4 x5 x6 x7 x8 _) ih⟩
theorem af7 (p:Parts) (hn:p.a.length≤1024) (hw:∀ l∈p.a,strOk l):evL cfg n_ah 0 [.d (iw p)] []=some (.d (.tup [.sl (p.a.map strD),.bool true]),[]):=by
 rw[o_ah];have d_a:decide ((p.a.length:Int)>1024)=false:=by simp<;>omega
 obtain⟨o,h⟩:=mu p.a hn hw (.sl []) (.sl []) (.sl []) (.sl (p.a.map fldsD)) (.sl (p.b.map fldsD)) (.sl (p.c.map fldsD)) (.sl []) (.sl (p.e.map fldsD)) (.sl (p.st.map ji)) [.c (.seq ah5 .ret)] p.a 0 [] none rfl (ww _) (ww _);simp only[List.map_nil,af,a8i,List.append_nil,List.cons_append,List.nil_append,strE] at h;unfold iw;simp(disch:=first|exact vm|fail) only[go_sem,X_ah,c_ah,vu,d_a,len9,cst8,Int.reduceLE,Int.reduceLT,Int.reduceToNat,Nat.reduceMul,and_self,if_true]
 refine h.trans ?_;clear h;have hS:=ij 7 o;have hL:=aju 7 o;generalize boxI 7 o=T at *;cases p.a with
 |nil=>simp(disch:=first|exact vm|fail) only[go_sem,X_ah,List.map_nil,af,hS,hL]
 |cons y r=>simp(disch:=first|exact vm|fail) only[go_sem,X_ah,List.map_cons,ak,hS,hL]
