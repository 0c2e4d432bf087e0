import Derived.Test.YtmeohcmbohicoaaGreatDoorOtC
namespace Go.Proofs.YtmeohcmbohicoaaGreatDoor
open Go Go.Ev
set_option maxHeartbeats 8000000
set_option maxRecDepth 10000
theorem unord5 (D':Nat):unordOk
  [(false,true,[.slot 8],[.slot 32]),
   (false,true,.slot 32::b8 D' 8 0 ((none:Option Nat).getD 1),[.slot 33]),
   (false,true,[.slot 8],[.slot 34]),
   (false,true,.slot 34::b8 D' 8 2 ((none:Option Nat).getD 1),[.slot 35]),
   (false,true,[.slot 35],[.slot 36]),(false,true,[.slot 36],[.slot 37]),
   (false,true,[.slot 8],[.slot 38]),
   (false,true,.slot 38::b8 D' 8 3 ((none:Option Nat).getD 1),[.slot 39]),
   (false,true,[.slot 8],[.slot 40]),
   (false,true,.slot 40::b8 D' 8 4 ((none:Option Nat).getD 1),[.slot 41]),
   (false,true,[.slot 8],[.slot 42]),
   (false,true,.slot 42::b8 D' 8 5 ((none:Option Nat).getD 1),[.slot 43]),
   (false,true,[.slot 33,.slot 37,.slot 39,.slot 41,.slot 43],[.slot 44]),
   (false,true,[.cell {d:=D',k:=9,off:=0}],
    [.slot 9,.cell {d:=D',k:=9,off:=0},.cell {d:=D',k:=9,off:=1},
     .cell {d:=D',k:=9,off:=2},.cell {d:=D',k:=9,off:=3},
     .cell {d:=D',k:=9,off:=4},.cell {d:=D',k:=9,off:=5}]),
   (false,true,
    [.slot 9,.cell {d:=D',k:=9,off:=0},.cell {d:=D',k:=9,off:=1},
     .cell {d:=D',k:=9,off:=2},.cell {d:=D',k:=9,off:=3},
     .cell {d:=D',k:=9,off:=4},.cell {d:=D',k:=9,off:=5},.slot 44],
    [.cell {d:=D',k:=9,off:=0},.cell {d:=D',k:=9,off:=1},
     .cell {d:=D',k:=9,off:=2},.cell {d:=D',k:=9,off:=3},
     .cell {d:=D',k:=9,off:=4},.cell {d:=D',k:=9,off:=5}])] nk=true:=by
 unfold nk;simp[unordOk,disj,besideOk,b8]
theorem afx (L:List (Ty×List Nat)) (hL:L.length≤100000):∀ (m:Nat) (t:Ty) (D' deep i:Nat) (rest:List (Ty×List Nat)) (Z:List (Cel×V)),t.size≤m→fewK m t→1≤D'→Zow D' Z→deep+m≤1000→L.drop i=flL i t++rest→
  evL cfg n_a5 D' [.d (.sl (L.map nodG)),.ref 0 4 0,.d (.int .i64 ((deep:Int)))] (bM i Z)=some (.d (.tup [t.d,.bool true]),bM (i+t.size) Z)
 |0,t,_,_,_,_,_,h,_,_,_,_,_=>by have:=t.size_pos;omega
 | m+1,t,D',deep,i,rest,Z,h,hs,hD,hZ,hd,e=>by
  obtain⟨s1,s2,s3⟩:=hs;rw[flL_eq,List.cons_append] at e;obtain⟨h1,h2,h3⟩:=cc e;have IH:=fun(k:Ty) (hk:k∈t.kids) (i:Nat) (rest:List (Ty×List Nat)) (Z:List (Cel×V)) (hz:Zow (D'+1) Z) (e:L.drop i=flL i k++rest)=>afx L hL m k (D'+1) (deep+1) i rest Z (by have:=Ty.size_kid hk;omega) (s3 k hk) vn hz vn e
  have lp:=build_loop L hL t (kidAt (i+1) t.kids) D' hD Z hZ deep vn s2 IH t.kids 0 [] (i+1) rest none rfl rfl rfl (i9 _ _) h3;rw[Ty.size_eq t,show i+(1+Ty.sizes t.kids)=i+1+Ty.sizes t.kids by omega,← lp,e_a5 D' _ _ rfl rfl]
  have z1:=lkW hZ;have z2:=stW hZ;have z3:=s7 hZ;have z4:=auo hZ;have z5:=freeW hZ;have z6:=cutW hZ;have z7:=allW hZ;have y1:=fun k o=>(congrArg (lk · (⟨D',k,o⟩:Cel)) (List.append_nil Z)).symm.trans (lkW hZ k o [])
  have y2:=fun k o v=>(congrArg (st · (⟨D',k,o⟩:Cel) v) (List.append_nil Z)).symm.trans (stW hZ k o v [])
  have y3:=fun e=>(congrArg (settleM e) (List.append_nil Z)).symm.trans ((s7 hZ e []).trans (List.append_nil Z))
  have y4:=(congrArg (leaveM D') (List.append_nil Z)).symm.trans ((auo hZ []).trans (List.append_nil Z));simp only[lk,st] at y1 y2;have n0:(0=D')=False:=by simp;omega
  have n1:(D'=0)=False:=by simp;omega
  have n2:(0<D')=True:=by simp;omega
  have n3:(D'<D')=False:=by simp
  have n4:(D'≤D')=True:=by simp
  have n5:(0≤D')=True:=by simp
  have d_a:decide ((i:Int)≥L.length)=false:=by simp<;>omega
  have hc:=clone_strs t.names s1;have hU:=unord5 D';have hi1:((i+1:Nat):Int)=(i:Int)+1:=vn;cases hn:t.names with
  | nil=>
   rw[hn] at hc;simp only[bM,bE,box6z,box8n,box9t,boxX,boxY,hn,List.map_nil,af,List.cons_append,List.nil_append,List.append_nil];simp only[List.map_nil,List.isEmpty_nil,if_true] at hc;simp(maxSteps:=2000000) (disch:=first|exact vm|fail) only[go_sem,X_a5,c_a5,d_a,hi1,h2,nodG,hn,hc,intsD,v6,Option.map_some,vu,y1,y2,y3,y4,z1,z2,z3,z4,z5,z6,z7,n0,n1,n2,n3,n4,n5,List.append_nil,List.all_cons,List.all_nil,len6,len8,tk8,List.map_nil]
  | cons x ns=>
   rw[hn] at hc;simp only[bM,bE,box6z,box8n,box9t,boxX,boxY,hn,List.map_nil,af,List.cons_append,List.nil_append,List.append_nil];simp only[List.isEmpty_cons,vv,if_false] at hc;generalize x::ns=q at *;simp(maxSteps:=2000000) (disch:=first|exact vm|fail) only[go_sem,X_a5,c_a5,d_a,hi1,h2,nodG,hn,hc,intsD,v6,Option.map_some,vu,y1,y2,y3,y4,z1,z2,z3,z4,z5,z6,z7,n0,n1,n2,n3,n4,n5,List.append_nil,List.all_cons,List.all_nil,len6,len8,tk8]
theorem oh (t:Ty) (hk:fewK t.size t) (hc:(chkT 1 0 t).2=0) (hz:t.size≤900):evL cfg n_bn 0 [.d (.sl ((flL 0 t).map nodG))] []=some (.d (.tup [t.d,.int .i64 0]),[]):=by
 have hl:=flL_len t 0;have h1:=afx (flL 0 t) vn t.size t 1 1 0 [] [] (wa _) hk (wa _) (fun p hp=>by simp at hp) vn (by rw[List.append_nil];rfl)
 have h2:=ig t hk;rw[hc] at h2;simp only[bM,List.append_nil,Nat.zero_add] at h1;rw[show((1:Nat):Int)=1 from rfl,show((0:Nat):Int)=0 from rfl] at h1
 have h1:evL cfg n_a5 (0+1) _ _=_:=h1;rw[o_bn];have d_a:decide ((t.size:Int)<(t.size:Int))=false:=by simp<;>omega
 simp(maxSteps:=2000000) (disch:=first|exact vm|fail) only[go_sem,X_bn,c_bn,h1,h2,d_a,vu,hl]
