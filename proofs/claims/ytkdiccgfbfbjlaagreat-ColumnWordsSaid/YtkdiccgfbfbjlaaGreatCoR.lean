import Derived.Test.YtkdiccgfbfbjlaaGreatCoM
import Derived.KernelRfl
namespace Go.Proofs.YtkdiccgfbfbjlaaGreat
open Go Go.Ev
set_option maxHeartbeats 4000000
set_option maxRecDepth 100000
theorem pc (n:Nat) (x:List UInt8):(ownB x).upTo n=true:=by cases x<;>rfl
theorem pb (n:Nat) (x:List Int):(ownI x).upTo n=true:=by cases x<;>rfl
theorem qo (x:List Int):(ownI x).home 0=ownI x:=by cases x<;>rfl
theorem aym {sg:Bool} {l:List Int} (hf:∀ v∈l,inI v) (hl:l.length≤5000):∀ (k i:Nat) (x:List UInt8) (L:List Int) (o:List (Nat×V)),l.length-i≤k→i≤l.length→x.length+11*L.length≤12*i→(∀ v∈L,inI v)→
  (o=[]∨∃ a b,o=[(10,a),(11,b),(50,.d (.bool (false)))])→
  ∃ x':List UInt8,x'.length≤12*l.length∧go X_ac [.c (.loop xb),.b 1,.c (.seq vn (.seq vj .ret))] ⟨reE l i++o,mR sg x L⟩=some (.d (.tup [.sl (x'.map byteD),.int .i64 0]),[])
 | k,i,x,L,o,hk,hi,hx,hL,ho=>by
  by_cases hlt:i<l.length
  · cases k with
    |zero=>omega
    |succ k=>
    have d_a:decide ((i:Int)<l.length)=true:=by simp<;>omega
    have et:List.take l.length (l.map (D.int .i64))=l.map (D.int .i64):=aaz yt;have hd:(l.drop i).length=l.length-i:=aat;obtain⟨n,s,n1,n2,he⟩:=a5m (l:=l.drop i) (fun v hv=>hf v (aai hv)) yp yp
    obtain⟨v,hv⟩:∃ v,l[i]? =some v:=⟨_,yy hlt⟩
    rw[hd] at n2;simp only[i64s,List.map_drop] at he;rcases y9 (decide ((n:Int)<3)) with d_c|d_c<;>have p_c:=d_c<;>simp only[zh,zb,zt,zi,ne_eq] at p_c
    · obtain⟨x',q1,q2⟩:=aym (sg:=sg) hf hl k (i+1) x (L++[v]) [] yp yp (by rw[zo,List.length_singleton];omega) (fun u hu=>by
        rcases aan.1 hu with hu|hu
        · exact hL u hu
        · rw[aal] at hu;subst hu;exact hf u (List.mem_of_getElem? hv)) (.inl rfl)
      refine⟨x',q1,Eq.trans ?_ q2⟩;have hxh:(ownB x).home 0=ownB x:=fg x;simp only[mR,vv (show L++[v]≠[] by simp),List.map_append,List.map_cons,List.map_nil,List.append_nil,Int.natCast_add]
      rw[go_loop];by_cases hz:L=[]
      · subst hz
        by_cases hy:x=[]
        · subst hy
          simp only[eb,am];rcases ho with rfl|⟨p,q,rfl⟩<;>simp(disch:=first|exact yo|fail) only[go_sem,X_ac,reE,i64s,d_a,d_c,et,he,hv,Int.natCast_add,yz,List.cons_append,List.nil_append,List.map_nil]
        · simp only[eb,ah hy]
          rcases ho with rfl|⟨p,q,rfl⟩<;>simp(disch:=first|exact yo|fail) only[go_sem,X_ac,reE,i64s,d_a,d_c,et,he,hv,Int.natCast_add,yz,List.cons_append,List.nil_append,List.map_nil]
      · by_cases hy:x=[]
        · subst hy
          simp only[vv hz,am];rcases ho with rfl|⟨p,q,rfl⟩<;>simp(disch:=first|exact yo|fail) only[go_sem,X_ac,reE,i64s,d_a,d_c,et,he,hv,Int.natCast_add,yz,List.cons_append,List.nil_append]
        · simp only[vv hz,ah hy]
          rcases ho with rfl|⟨p,q,rfl⟩<;>simp(disch:=first|exact yo|fail) only[go_sem,X_ac,reE,i64s,d_a,d_c,et,he,hv,Int.natCast_add,yz,List.cons_append,List.nil_append]
    · obtain⟨x1,p1,p2,p3,p4⟩:=sn (sg:=sg) x L hL yp yp
      obtain⟨i',n',x2,r1,r2,r3,r4,r5,r6⟩:=re_in (sg:=sg) hf hl s [.b 2,.c (.loop xb),.b 1,.c (.seq vn (.seq vj .ret))] n n i x1 (y7 _) yp yp;obtain⟨x',q1,q2⟩:=aym (sg:=sg) hf hl k i' x2 [] [(10,.d (.int .i64 ((n':Int)))),(11,.d (.int .i64 (s))),(50,.d (.bool (false)))] yp r2 (by simp;omega) yt (.inr ⟨_,_,rfl⟩)
      refine⟨x',q1,Eq.trans ?_ (r6.trans (Eq.trans ?_ q2))⟩
      · simp only[mR] at p4 ⊢
        rw[go_loop];rcases ho with rfl|⟨p,q,rfl⟩<;>simp(disch:=first|exact yo|fail) only[go_sem,X_ac,reE,i64s,d_a,d_c,et,he,p4,fg,qo,pc,pb,yz,List.cons_append,List.nil_append]
      · simp(disch:=first|exact yo|fail) only[go_sem,X_ac,reE,i64s,List.cons_append,List.nil_append]
  · have:i=l.length:=yp
    subst this;have d_a:decide ((l.length:Int)<l.length)=false:=by simp<;>omega
    obtain⟨x1,p1,p2,p3,p4⟩:=sn (sg:=sg) x L hL yp yp;refine⟨x1,by omega,?_⟩
    simp only[mR] at p4 ⊢;rw[go_loop];by_cases hz:x1=[]
    · subst hz
      rw[am] at p4;rcases ho with rfl|⟨p,q,rfl⟩<;>simp(disch:=first|exact yo|fail) only[go_sem,X_ac,reE,i64s,d_a,p4,fg,qo,pc,pb,eb,yz,List.cons_append,List.nil_append,List.map_nil]
    · rw[ah hz] at p4
      rcases ho with rfl|⟨p,q,rfl⟩<;>simp(disch:=first|exact yo|fail) only[go_sem,X_ac,reE,i64s,d_a,p4,fg,qo,pc,pb,eb,yz,List.cons_append,List.nil_append]
theorem enc1_ans {sg:Bool} {l:List Int} (h:Fine sg l) (hl:l.length≤5000):∃ x:List UInt8,x.length≤12*l.length∧evL cfg n_ac 0 [.d (i64s l),.d (.bool (sg))] []=some (.d (.tup [.sl (x.map byteD),.int .i64 0]),[]):=by
 obtain⟨x,h1,h2⟩:=aym (sg:=sg) (fun v hv=>(h v hv).1) hl l.length 0 [] [] [] yp (aad _) yt yt (.inl rfl)
 refine⟨x,h1,Eq.trans ?_ h2⟩;have d_a:decide ((l.length:Int)>16384)=false:=by simp<;>omega
 rw[o_ac];simp only[mR,am,eb,List.append_nil,Int.natCast_zero];cases sg with
 |true=>simp(disch:=first|exact yo|fail) only[go_sem,X_ac,c_ac,reE,i64s,d_a,Int.natCast_zero,yz]
 | false=>
  have hc:=n9 n_bx (.inr rfl) l (fun v hv=>(h v hv).2 rfl) yp
  unfold i64s at hc;simp(disch:=first|exact yo|fail) only[go_sem,X_ac,c_ac,reE,i64s,d_a,hc,Int.natCast_zero,yz]
theorem enc_ans {sg:Bool} {l:List Int} (h:Fine sg l) (h512:l.length≤512) {v:Int} (hv:v=1∨v=2):∃ x:List UInt8,x.length≤2+64*l.length∧evL cfg n_au 0 [.d (i64s l),.d (.bool (sg)),.d (.int .i64 (v))] []=some (.d (.tup [.sl (x.map byteD),.int .i64 0]),[]):=by
 rcases hv with rfl|rfl
 · obtain⟨x,h1,h2⟩:=enc1_ans h yp
   have hb:=jz h yp;have d_a:decide ((l.length:Int)>16384)=false:=by simp<;>omega
   refine⟨x,by omega,?_⟩
   rw[o_au];unfold i64s at *;simp(disch:=first|exact yo|fail) only[go_sem,X_au,c_au,hb,d_a,h2,yz]
 · exact enc2_ans h h512
set_option maxRecDepth 100000
theorem iq (n:Nat) (x:List UInt8):(ownB x).home n=ownB x:=by cases x<;>rfl
theorem aec (l:List UInt8):(l.map byteD).all D.isCell=true:=by simp[D.isCell,ce]
set_option maxRecDepth 100000
abbrev ku (l:List Bool):D:= .sl (l.map D.bool)
set_option maxRecDepth 100000
theorem yl:∀ (k n:Nat) (x:List UInt8),n≤k→x≠[]→x.length+n≤3000000→
  ∃ x':List UInt8,x'≠[]∧x'.length≤x.length+n+1∧go X_bw [.c (.loop a48),.b 0,.c (.seq ayp .ret)] ⟨[(0,.own false 1 (x.map byteD)),(1,.d (.int .i64 ((n:Int))))],[]⟩=some (.own false 1 (x'.map byteD),[])
 | k,n,x,hk,hx,hl=>by
  by_cases h:n<255
  · have d_a:decide ((n:Int)≥255)=false:=by simp<;>omega
    refine⟨x++[wU (n:Int)],by simp,by rw[zo,List.length_singleton];omega,?_⟩
    rw[go_loop];simp(disch:=first|exact yo|fail) only[go_sem,X_bw,d_a,wB,List.map_append,List.map_cons,List.map_nil]
  · cases k with
    |zero=>omega
    |succ k=>
    have d_a:decide ((n:Int)≥255)=true:=by simp<;>omega
    obtain⟨x',q1,q2,q3⟩:=yl k (n-255) (x++[255]) yp yt (by simp;omega)
    have e1:(n:Int)-255=((n-255:Nat):Int):=yp;have z:D.int .u8 255=byteD 255:=rfl;rw[zo,List.length_singleton] at q2;refine⟨x',q1,by omega,Eq.trans ?_ q3⟩
    rw[go_loop];simp(disch:=first|exact yo|fail) only[go_sem,X_bw,d_a,e1,z,List.map_append,List.map_cons,List.map_nil]
theorem uv {x:List UInt8} (hx:x≠[]) (n:Nat) (hl:x.length+n≤3000000):∃ x':List UInt8,x'≠[]∧x'.length≤x.length+n∧evL cfg n_bw 0 [.own false 1 (x.map byteD),.d (.int .i64 ((n:Int)))] []=some (.own false 1 (x'.map byteD),[]):=by
 rw[show evL cfg n_bw 0 [.own false 1 (x.map byteD),.d (.int .i64 ((n:Int)))] []=go X_bw [.c c_bw] ⟨[(0,.own false 1 (x.map byteD)),(1,.d (.int .i64 ((n:Int))))],[]⟩ from ag (fn:=i_bw) rfl rfl _ _ _ rfl rfl]
 by_cases h:n<15
 · have d_a:decide ((n:Int)<15)=true:=by simp<;>omega
   refine⟨x,hx,by omega,?_⟩
   simp(disch:=first|exact yo|fail) only[go_sem,X_bw,c_bw,d_a]
 · have d_a:decide ((n:Int)<15)=false:=by simp<;>omega
   obtain⟨x',q1,q2,q3⟩:=yl n (n-15) x yp hx yp;have e1:(n:Int)-15=((n-15:Nat):Int):=yp;refine⟨x',q1,by omega,Eq.trans ?_ q3⟩
   simp(disch:=first|exact yo|fail) only[go_sem,X_bw,c_bw,d_a,e1]
theorem ajw {es ys:List D} (h:es.length+ys.length≤1000000000) (dst:Option Nat) (l:Ev.Loc):appB dst 1 l 0 es.length ys (some (.own false 1 es))=some (put1 dst (.own true 1 (es++ys))++[(l,.junk)]):=by
 rw[appB_own (hn:=rfl) (h:=h)]
theorem ado {x:List UInt8} (hx:x≠[]) (a b c:D):evL cfg n_bv 0 [.own false 1 (x.map byteD),.d a,.d b,.d c] []=go X_bv [.c c_bv] ⟨[(0,.own false 1 (x.map byteD)),(1,.d a),(2,.d b),(3,.d c)],[]⟩:=ag (fn:=i_bv) rfl rfl _ _ _ rfl rfl
theorem put_copy {x q:List UInt8} {back n:Nat} (hn:4≤n) (hl:x.length+2*q.length+n≤1000000):
   ∃ x':List UInt8,x'≠[]∧x'.length≤x.length+2*q.length+n∧evL cfg n_bv 0 [ownB x,.d (.sl ((q).map byteD)),.d (.int .i64 ((back:Int))),.d (.int .i64 ((n:Int)))] []=some (.own false 1 (x'.map byteD),[]):=by
 have h:=fun y:UInt8=>uv (x:=x++[y]) yt q.length (by simp;omega)
 obtain⟨F,hF⟩:=Classical.axiomOfChoice h;have F1:=fun y=>(hF y).2.2
 have F2:=fun y=>(hF y).2.1
 simp only[zo,List.length_singleton] at F2;have h':=fun(y:UInt8×UInt8×UInt8)=>uv (x:=F y.1++q++[y.2.1,y.2.2]) yt (n-4) (by have:=F2 y.1;simp;omega)
 obtain⟨G,hG⟩:=Classical.axiomOfChoice h';have G1:=fun a b c=>(hG (a,b,c)).2.2
 have G2:=fun y=>(hG y).2.1
 have G0:=fun y=>(hG y).1
 simp only[zo,List.length_cons,List.length_nil] at G2;have A1:=fun(y:UInt8)=>ajw (es:=(F y).map byteD) (ys:=q.map byteD) (by have:=F2 y;simp;omega)
 have A2:=fun(y a b:UInt8)=>ajw (es:=(F y).map byteD++q.map byteD) (ys:=[byteD a,byteD b]) (by have:=F2 y;simp;omega)
 simp only[yz,zo] at A1 A2;have d_a:decide ((n:Int)>0)=true:=by simp<;>omega
 have e1:(n:Int)-4=((n-4:Nat):Int):=yp;have e2:((n:Int)==0)=false:=by simp;omega
 simp only[List.map_append,List.map_cons,List.map_nil] at F1 G1;have fin:∀ y a b,G (y,a,b)≠[]∧(G (y,a,b)).length≤x.length+2*q.length+n:=fun y a b=>⟨G0 _,by have:=G2 (y,a,b);have:=F2 y;simp only at *;omega⟩
 have fin2:=fun y a b=>(fin y a b).2
 by_cases hz:x=[]
 · subst hz
   rw[am,o_bv];simp only[List.map_nil,List.nil_append] at F1;simp(disch:=first|exact yo|fail) only[go_sem,X_bv,c_bv,d_a,e1,e2,F1,G1,A1,A2,wB,ff,ba,yz,zo,List.length_cons,List.length_nil]
   refine⟨G (_,_,_),(fin _ _ _).1,?_,rfl⟩
   first|exact fin2 _ _ _| (simp only[List.length_nil,Nat.zero_add] at fin2;exact fin2 _ _ _)
 · rw[ah hz,ado hz]
   simp(disch:=first|exact yo|fail) only[go_sem,X_bv,c_bv,d_a,e1,e2,F1,G1,A1,A2,wB,ff,ba,yz,zo,List.length_cons,List.length_nil]
   refine⟨G (_,_,_),(fin _ _ _).1,?_,rfl⟩
   first|exact fin2 _ _ _| (simp only[List.length_nil,Nat.zero_add] at fin2;exact fin2 _ _ _)
theorem at9 {x q:List UInt8} (hl:x.length+2*q.length≤1000000):
   ∃ x':List UInt8,x'≠[]∧x'.length≤x.length+2*q.length+1∧evL cfg n_bv 0 [ownB x,.d (.sl ((q).map byteD)),.d (.int .i64 (0)),.d (.int .i64 (0))] []=some (.own false 1 (x'.map byteD),[]):=by
 have h:=fun y:UInt8=>uv (x:=x++[y]) yt q.length (by simp;omega)
 obtain⟨F,hF⟩:=Classical.axiomOfChoice h;have F1:=fun y=>(hF y).2.2
 have F0:=fun y=>(hF y).1
 have F2:=fun y=>(hF y).2.1
 simp only[zo,List.length_singleton] at F2;have A1:=fun(y:UInt8)=>ajw (es:=(F y).map byteD) (ys:=q.map byteD) (by have:=F2 y;simp;omega)
 simp only[yz] at A1;simp only[List.map_append,List.map_cons,List.map_nil] at F1;have fin:∀ y,F y++q≠[]∧(F y++q).length≤x.length+2*q.length+1:=fun y=>⟨by simp[F0 y],by have:=F2 y;rw[zo];omega⟩
 have fin2:=fun y=>(fin y).2
 by_cases hz:x=[]
 · subst hz
   rw[am,o_bv];simp only[List.map_nil,List.nil_append] at F1;simp(disch:=first|exact yo|fail) only[go_sem,X_bv,c_bv,F1,A1,wB,ff,ba,yz,Int.reduceGT,decide_false,gt_iff_lt,Int.reduceLT,Int.reduceBEq]
   refine⟨F _++q,(fin _).1,?_,by rw[List.map_append]⟩
   first|exact fin2 _| (simp only[List.length_nil,Nat.zero_add] at fin2;exact fin2 _)
 · rw[ah hz,ado hz]
   simp(disch:=first|exact yo|fail) only[go_sem,X_bv,c_bv,F1,A1,wB,ff,ba,yz,Int.reduceGT,decide_false,gt_iff_lt,Int.reduceLT,Int.reduceBEq]
   refine⟨F _++q,(fin _).1,?_,by rw[List.map_append]⟩
   first|exact fin2 _| (simp only[List.length_nil,Nat.zero_add] at fin2;exact fin2 _)
set_option maxRecDepth 100000
theorem aj4 (x:Int):∃ n:Nat,n<4294967296∧IntKind.u32.wrap x=(n:Int):=by
 refine⟨(IntKind.u32.wrap x).toNat,?_,?_⟩<;>simp[IntKind.wrap,IntKind.signed,IntKind.bits]<;>omega
def hashN (x:Int):Nat:=(IntKind.u32.wrap x).toNat / 2 ^ 20
theorem hash_lt (x:Int):hashN x<4096:=by
 obtain⟨n,h1,h2⟩:=aj4 x;unfold hashN;rw[h2,aa1];omega
theorem hash_eq (x:Int):IntKind.i64.wrap (shrI .u32 (IntKind.u32.wrap x) 20)=((hashN x:Nat):Int):=by
 obtain⟨n,h1,h2⟩:=aj4 x;unfold hashN;have e:=shrU .u32 n (n:=20) yu;rw[show((20:Nat):Int)=20 from rfl] at e
 rw[h2,e,aa1];exact wrap_i64 yp yp
theorem ex_hash (x:Int):∃ n:Nat,n<4096∧(V.d (.int .i64 ((hashN x:Nat):Int)),([]:List (Cel×V)))=(V.d (.int .i64 (n:Int)),[]):=⟨hashN x,hash_lt x,rfl⟩
theorem a32 (s:Get) (dst:Option Nat) (z:Nat) (x:IOpd) (c d e:D) (r:List D):evIdx s dst z x (.d (.sl (c::d::e::r))) 2=if e.cells.length=z then some (put1 dst (.iptr e 0)) else none:=by
 rw[wu _ _ _ _ yp];rfl
theorem a31 (s:Get) (dst:Option Nat) (z:Nat) (x:IOpd) (b c d e:D) (r:List D):evIdx s dst z x (.d (.sl (b::c::d::e::r))) 3=if e.cells.length=z then some (put1 dst (.iptr e 0)) else none:=by
 rw[wu _ _ _ _ yp];rfl
theorem hash_2 (v:Int):∃ n:Nat,n<4096∧go X_cr [.c (.seq yn .ret)] ⟨[(3,.d (.int .u32 v))],[]⟩=some (.d (.int .i64 ((n:Int))),[]):=by
 obtain⟨c,hc⟩:∃ c:Int,c=2654435761:=⟨_,rfl⟩
 have e:aku=[oo 26 (.mv (.t 3)),oo 27 (.bin .mul (.t 26) (.c (.int .u32 c))),oo 28 (.bin .shr (.t 27) (.c (.int .u64 20))),oo 29 (.cvInt .i64 (.t 28)),oo 2 (.asg (.t 29))]:=by rw[hc];rfl
 unfold yn rg;rw[e];clear e hc;simp(disch:=first|exact yo|fail) only[go_sem,X_cr,c_cr,hash_eq,ba]
 exact ex_hash _
theorem hash_ans {q:List UInt8} (h:4≤q.length):∃ n:Nat,n<4096∧evL cfg n_cr 0 [.d (.sl ((q).map byteD))] []=some (.d (.int .i64 ((n:Int))),[]):=by
 match q,h with
 | a::b::c::d::r,_=>
  have s8:=fun(x:Int)=>ff .u32 .u64 x (b:=8) yu
  have s16:=fun(x:Int)=>ff .u32 .u64 x (b:=16) yu
  obtain⟨sh,s24⟩:∃ sh:Int→Int,∀ x,ay .shl .u32 x .u64 24=some (.int .u32 (sh x)):=⟨fun x=>shlI .u32 x 24,fun x=>ff .u32 .u64 x (b:=24) yu⟩
  obtain⟨n,h1,h2⟩:=hash_2 (orI .u32 (orI .u32 (orI .u32 (IntKind.u32.wrap a.toNat) (shlI .u32 (IntKind.u32.wrap b.toNat) 8)) (shlI .u32 (IntKind.u32.wrap c.toNat) 16)) (sh (IntKind.u32.wrap d.toNat)));refine⟨n,h1,Eq.trans ?_ h2⟩;have ec:c_cr= .seq ayo (.seq ayn (.seq yn .ret)):=rfl;rw[o_cr,ec];simp only[List.map_cons];generalize(ICode.seq yn .ret)=R at *;simp(disch:=first|exact yo|fail) only[go_sem,X_cr,s8,s16,s24,ce a,ce b,ce c,ce d,a32,a31]
theorem a4a (p q:List UInt8) (hl:p.length=q.length) (hb:p.length≤1000000):∀ (r:List UInt8) (i:Nat),p.drop i=r→i≤p.length→
  ∃ c:Bool,go X_ah [.c (.loop a5g),.b 0,.c (.seq ahd .ret)] ⟨[(0,.d (.sl ((p).map byteD))),(1,.d (.sl ((q).map byteD))),(12,.d (.int .i64 ((p.length:Int)))),(13,.d (.int .i64 ((i:Int))))],[]⟩=some (.d (.bool (c)),[])
 | [],i,hr,hi=>by
  have:=cf hr;have:i=p.length:=yp;subst this;have d_a:decide ((p.length:Int)<p.length)=false:=by simp<;>omega
  refine⟨true,?_⟩;rw[go_loop];simp(disch:=first|exact yo|fail) only[go_sem,X_ah,d_a]
 | u::r,i,hr,hi=>by
  obtain⟨h1,h2,h3⟩:=da hr;have d_a:decide ((i:Int)<p.length)=true:=by simp<;>omega
  obtain⟨v,hv⟩:∃ v,q[i]? =some v:=⟨_,yy yp⟩
  have eu:=ce u;have ev:=ce v;cases c:((u.toNat:Int) !=(v.toNat:Int)) with
  | true=>
   refine⟨false,?_⟩;rw[go_loop];simp(disch:=first|exact yo|fail) only[go_sem,X_ah,d_a,h2,hv,eu,ev,c]
  | false=>
   obtain⟨c',ih⟩:=a4a p q hl hb r (i+1) h3 h1;refine⟨c',Eq.trans ?_ ih⟩;rw[go_loop];simp(disch:=first|exact yo|fail) only[go_sem,X_ah,d_a,h2,hv,eu,ev,c,Int.natCast_add]
theorem a39 {p q:List UInt8} (hl:p.length=q.length) (hb:p.length≤1000000):∃ c:Bool,evL cfg n_ah 0 [.d (.sl ((p).map byteD)),.d (.sl ((q).map byteD))] []=some (.d (.bool (c)),[]):=by
 obtain⟨c,h⟩:=a4a p q hl hb p 0 rfl (aad _);have e:((p.length:Int) !=(q.length:Int))=false:=by simp[hl]
 refine⟨c,Eq.trans ?_ h⟩;rw[o_ah];simp(disch:=first|exact yo|fail) only[go_sem,X_ah,c_ah,e,Int.natCast_zero,yz]
