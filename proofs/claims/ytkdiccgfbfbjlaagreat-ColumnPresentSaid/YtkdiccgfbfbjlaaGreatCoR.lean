import Derived.Test.YtkdiccgfbfbjlaaGreatCoP
import Derived.KernelRfl
namespace Go.Proofs.YtkdiccgfbfbjlaaGreat
open Go Go.Ev
set_option maxHeartbeats 4000000
set_option maxRecDepth 100000
theorem ur:∀ (k n:Nat) (x:List UInt8),n≤k→x≠[]→x.length+n≤3000000→
  ∃ x':List UInt8,x'≠[]∧x'.length≤x.length+n+1∧go X_bw [.c (.loop az4),.b 0,.c (.seq atr .ret)] ⟨[(0,.own false 1 (x.map byteD)),(1,.d (.int .i64 ((n:Int))))],[]⟩=some (.own false 1 (x'.map byteD),[])
 | k,n,x,hk,hx,hl=>by
  by_cases h:n<255
  · have d_a:decide ((n:Int)≥255)=false:=by simp<;>omega
    refine⟨x++[wU (n:Int)],by simp,by rw[v9,List.length_singleton];omega,?_⟩
    rw[go_loop];simp(disch:=first|exact uv|fail) only[go_sem,X_bw,d_a,wB,List.map_append,List.map_cons,List.map_nil]
  · cases k with
    |zero=>omega
    |succ k=>
    have d_a:decide ((n:Int)≥255)=true:=by simp<;>omega
    obtain⟨x',q1,q2,q3⟩:=ur k (n-255) (x++[255]) uw uy (by simp;omega)
    have e1:(n:Int)-255=((n-255:Nat):Int):=uw;have z:D.int .u8 255=byteD 255:=rfl;rw[v9,List.length_singleton] at q2;refine⟨x',q1,by omega,Eq.trans ?_ q3⟩
    rw[go_loop];simp(disch:=first|exact uv|fail) only[go_sem,X_bw,d_a,e1,z,List.map_append,List.map_cons,List.map_nil]
theorem ra {x:List UInt8} (hx:x≠[]) (n:Nat) (hl:x.length+n≤3000000):∃ x':List UInt8,x'≠[]∧x'.length≤x.length+n∧evL cfg n_bw 0 [.own false 1 (x.map byteD),.d (.int .i64 ((n:Int)))] []=some (.own false 1 (x'.map byteD),[]):=by
 rw[show evL cfg n_bw 0 [.own false 1 (x.map byteD),.d (.int .i64 ((n:Int)))] []=go X_bw [.c c_bw] ⟨[(0,.own false 1 (x.map byteD)),(1,.d (.int .i64 ((n:Int))))],[]⟩ from ai (fn:=i_bw) rfl rfl _ _ _ rfl rfl]
 by_cases h:n<15
 · have d_a:decide ((n:Int)<15)=true:=by simp<;>omega
   refine⟨x,hx,by omega,?_⟩
   simp(disch:=first|exact uv|fail) only[go_sem,X_bw,c_bw,d_a]
 · have d_a:decide ((n:Int)<15)=false:=by simp<;>omega
   obtain⟨x',q1,q2,q3⟩:=ur n (n-15) x uw hx uw;have e1:(n:Int)-15=((n-15:Nat):Int):=uw;refine⟨x',q1,by omega,Eq.trans ?_ q3⟩
   simp(disch:=first|exact uv|fail) only[go_sem,X_bw,c_bw,d_a,e1]
theorem afd {es ys:List D} (h:es.length+ys.length≤1000000000) (dst:Option Nat) (l:Ev.Loc):appB dst 1 l 0 es.length ys (some (.own false 1 es))=some (put1 dst (.own true 1 (es++ys))++[(l,.junk)]):=by
 rw[appB_own (hn:=rfl) (h:=h)]
theorem z9 {x:List UInt8} (hx:x≠[]) (a b c:D):evL cfg n_bv 0 [.own false 1 (x.map byteD),.d a,.d b,.d c] []=go X_bv [.c c_bv] ⟨[(0,.own false 1 (x.map byteD)),(1,.d a),(2,.d b),(3,.d c)],[]⟩:=ai (fn:=i_bv) rfl rfl _ _ _ rfl rfl
theorem put_copy {x q:List UInt8} {back n:Nat} (hn:4≤n) (hl:x.length+2*q.length+n≤1000000):
   ∃ x':List UInt8,x'≠[]∧x'.length≤x.length+2*q.length+n∧evL cfg n_bv 0 [ownB x,.d (.sl ((q).map byteD)),.d (.int .i64 ((back:Int))),.d (.int .i64 ((n:Int)))] []=some (.own false 1 (x'.map byteD),[]):=by
 have h:=fun y:UInt8=>ra (x:=x++[y]) uy q.length (by simp;omega)
 obtain⟨F,hF⟩:=Classical.axiomOfChoice h;have F1:=fun y=>(hF y).2.2
 have F2:=fun y=>(hF y).2.1
 simp only[v9,List.length_singleton] at F2;have h':=fun(y:UInt8×UInt8×UInt8)=>ra (x:=F y.1++q++[y.2.1,y.2.2]) uy (n-4) (by have:=F2 y.1;simp;omega)
 obtain⟨G,hG⟩:=Classical.axiomOfChoice h';have G1:=fun a b c=>(hG (a,b,c)).2.2
 have G2:=fun y=>(hG y).2.1
 have G0:=fun y=>(hG y).1
 simp only[v9,List.length_cons,List.length_nil] at G2;have A1:=fun(y:UInt8)=>afd (es:=(F y).map byteD) (ys:=q.map byteD) (by have:=F2 y;simp;omega)
 have A2:=fun(y a b:UInt8)=>afd (es:=(F y).map byteD++q.map byteD) (ys:=[byteD a,byteD b]) (by have:=F2 y;simp;omega)
 simp only[u3,v9] at A1 A2;have d_a:decide ((n:Int)>0)=true:=by simp<;>omega
 have e1:(n:Int)-4=((n-4:Nat):Int):=uw;have e2:((n:Int)==0)=false:=by simp;omega
 simp only[List.map_append,List.map_cons,List.map_nil] at F1 G1;have fin:∀ y a b,G (y,a,b)≠[]∧(G (y,a,b)).length≤x.length+2*q.length+n:=fun y a b=>⟨G0 _,by have:=G2 (y,a,b);have:=F2 y;simp only at *;omega⟩
 have fin2:=fun y a b=>(fin y a b).2
 by_cases hz:x=[]
 · subst hz
   rw[af,o_bv];simp only[List.map_nil,List.nil_append] at F1;simp(disch:=first|exact uv|fail) only[go_sem,X_bv,c_bv,d_a,e1,e2,F1,G1,A1,A2,wB,ej,a7,u3,v9,List.length_cons,List.length_nil]
   refine⟨G (_,_,_),(fin _ _ _).1,?_,rfl⟩
   first|exact fin2 _ _ _| (simp only[List.length_nil,Nat.zero_add] at fin2;exact fin2 _ _ _)
 · rw[ae hz,z9 hz]
   simp(disch:=first|exact uv|fail) only[go_sem,X_bv,c_bv,d_a,e1,e2,F1,G1,A1,A2,wB,ej,a7,u3,v9,List.length_cons,List.length_nil]
   refine⟨G (_,_,_),(fin _ _ _).1,?_,rfl⟩
   first|exact fin2 _ _ _| (simp only[List.length_nil,Nat.zero_add] at fin2;exact fin2 _ _ _)
theorem apf {x q:List UInt8} (hl:x.length+2*q.length≤1000000):
   ∃ x':List UInt8,x'≠[]∧x'.length≤x.length+2*q.length+1∧evL cfg n_bv 0 [ownB x,.d (.sl ((q).map byteD)),.d (.int .i64 (0)),.d (.int .i64 (0))] []=some (.own false 1 (x'.map byteD),[]):=by
 have h:=fun y:UInt8=>ra (x:=x++[y]) uy q.length (by simp;omega)
 obtain⟨F,hF⟩:=Classical.axiomOfChoice h;have F1:=fun y=>(hF y).2.2
 have F0:=fun y=>(hF y).1
 have F2:=fun y=>(hF y).2.1
 simp only[v9,List.length_singleton] at F2;have A1:=fun(y:UInt8)=>afd (es:=(F y).map byteD) (ys:=q.map byteD) (by have:=F2 y;simp;omega)
 simp only[u3] at A1;simp only[List.map_append,List.map_cons,List.map_nil] at F1;have fin:∀ y,F y++q≠[]∧(F y++q).length≤x.length+2*q.length+1:=fun y=>⟨by simp[F0 y],by have:=F2 y;rw[v9];omega⟩
 have fin2:=fun y=>(fin y).2
 by_cases hz:x=[]
 · subst hz
   rw[af,o_bv];simp only[List.map_nil,List.nil_append] at F1;simp(disch:=first|exact uv|fail) only[go_sem,X_bv,c_bv,F1,A1,wB,ej,a7,u3,Int.reduceGT,decide_false,gt_iff_lt,Int.reduceLT,Int.reduceBEq]
   refine⟨F _++q,(fin _).1,?_,by rw[List.map_append]⟩
   first|exact fin2 _| (simp only[List.length_nil,Nat.zero_add] at fin2;exact fin2 _)
 · rw[ae hz,z9 hz]
   simp(disch:=first|exact uv|fail) only[go_sem,X_bv,c_bv,F1,A1,wB,ej,a7,u3,Int.reduceGT,decide_false,gt_iff_lt,Int.reduceLT,Int.reduceBEq]
   refine⟨F _++q,(fin _).1,?_,by rw[List.map_append]⟩
   first|exact fin2 _| (simp only[List.length_nil,Nat.zero_add] at fin2;exact fin2 _)
set_option maxRecDepth 100000
theorem afl (x:Int):∃ n:Nat,n<4294967296∧IntKind.u32.wrap x=(n:Int):=by
 refine⟨(IntKind.u32.wrap x).toNat,?_,?_⟩<;>simp[IntKind.wrap,IntKind.signed,IntKind.bits]<;>omega
def hashN (x:Int):Nat:=(IntKind.u32.wrap x).toNat / 2 ^ 20
theorem hash_lt (x:Int):hashN x<4096:=by
 obtain⟨n,h1,h2⟩:=afl x;unfold hashN;rw[h2,xg];omega
theorem hash_eq (x:Int):IntKind.i64.wrap (shrI .u32 (IntKind.u32.wrap x) 20)=((hashN x:Nat):Int):=by
 obtain⟨n,h1,h2⟩:=afl x;unfold hashN;have e:=shrU .u32 n (n:=20) uz;rw[show((20:Nat):Int)=20 from rfl] at e
 rw[h2,e,xg];exact wrap_i64 uw uw
theorem ex_hash (x:Int):∃ n:Nat,n<4096∧(V.d (.int .i64 ((hashN x:Nat):Int)),([]:List (Cel×V)))=(V.d (.int .i64 (n:Int)),[]):=⟨hashN x,hash_lt x,rfl⟩
theorem fc (s:Get) (dst:Option Nat) (z:Nat) (x:IOpd) (c d e:D) (r:List D):evIdx s dst z x (.d (.sl (c::d::e::r))) 2=if e.cells.length=z then some (put1 dst (.iptr e 0)) else none:=by
 rw[te _ _ _ _ uw];rfl
theorem fa (s:Get) (dst:Option Nat) (z:Nat) (x:IOpd) (b c d e:D) (r:List D):evIdx s dst z x (.d (.sl (b::c::d::e::r))) 3=if e.cells.length=z then some (put1 dst (.iptr e 0)) else none:=by
 rw[te _ _ _ _ uw];rfl
theorem hash_2 (v:Int):∃ n:Nat,n<4096∧go X_cm [.c (.seq uu .ret)] ⟨[(3,.d (.int .u32 v))],[]⟩=some (.d (.int .i64 ((n:Int))),[]):=by
 obtain⟨c,hc⟩:∃ c:Int,c=2654435761:=⟨_,rfl⟩
 have e:af8=[oo 26 (.mv (.t 3)),oo 27 (.bin .mul (.t 26) (.c (.int .u32 c))),oo 28 (.bin .shr (.t 27) (.c (.int .u64 20))),oo 29 (.cvInt .i64 (.t 28)),oo 2 (.asg (.t 29))]:=by rw[hc];rfl
 unfold uu rg;rw[e];clear e hc;simp(disch:=first|exact uv|fail) only[go_sem,X_cm,c_cm,hash_eq,a7]
 exact ex_hash _
theorem hash_ans {q:List UInt8} (h:4≤q.length):∃ n:Nat,n<4096∧evL cfg n_cm 0 [.d (.sl ((q).map byteD))] []=some (.d (.int .i64 ((n:Int))),[]):=by
 match q,h with
 | a::b::c::d::r,_=>
  have s8:=fun(x:Int)=>ej .u32 .u64 x (b:=8) uz
  have s16:=fun(x:Int)=>ej .u32 .u64 x (b:=16) uz
  obtain⟨sh,s24⟩:∃ sh:Int→Int,∀ x,aq .shl .u32 x .u64 24=some (.int .u32 (sh x)):=⟨fun x=>shlI .u32 x 24,fun x=>ej .u32 .u64 x (b:=24) uz⟩
  obtain⟨n,h1,h2⟩:=hash_2 (orI .u32 (orI .u32 (orI .u32 (IntKind.u32.wrap a.toNat) (shlI .u32 (IntKind.u32.wrap b.toNat) 8)) (shlI .u32 (IntKind.u32.wrap c.toNat) 16)) (sh (IntKind.u32.wrap d.toNat)));refine⟨n,h1,Eq.trans ?_ h2⟩;have ec:c_cm= .seq atq (.seq atp (.seq uu .ret)):=rfl;rw[o_cm,ec];simp only[List.map_cons];generalize(ICode.seq uu .ret)=R at *;simp(disch:=first|exact uv|fail) only[go_sem,X_cm,s8,s16,s24,bp a,bp b,bp c,bp d,fc,fa]
theorem aze (p q:List UInt8) (hl:p.length=q.length) (hb:p.length≤1000000):∀ (r:List UInt8) (i:Nat),p.drop i=r→i≤p.length→
  ∃ c:Bool,go X_ah [.c (.loop a0g),.b 0,.c (.seq acy .ret)] ⟨[(0,.d (.sl ((p).map byteD))),(1,.d (.sl ((q).map byteD))),(12,.d (.int .i64 ((p.length:Int)))),(13,.d (.int .i64 ((i:Int))))],[]⟩=some (.d (.bool (c)),[])
 | [],i,hr,hi=>by
  have:=fe hr;have:i=p.length:=uw;subst this;have d_a:decide ((p.length:Int)<p.length)=false:=by simp<;>omega
  refine⟨true,?_⟩;rw[go_loop];simp(disch:=first|exact uv|fail) only[go_sem,X_ah,d_a]
 | u::r,i,hr,hi=>by
  obtain⟨h1,h2,h3⟩:=gk hr;have d_a:decide ((i:Int)<p.length)=true:=by simp<;>omega
  obtain⟨v,hv⟩:∃ v,q[i]? =some v:=⟨_,u4 uw⟩
  have eu:=bp u;have ev:=bp v;cases c:((u.toNat:Int) !=(v.toNat:Int)) with
  | true=>
   refine⟨false,?_⟩;rw[go_loop];simp(disch:=first|exact uv|fail) only[go_sem,X_ah,d_a,h2,hv,eu,ev,c]
  | false=>
   obtain⟨c',ih⟩:=aze p q hl hb r (i+1) h3 h1;refine⟨c',Eq.trans ?_ ih⟩;rw[go_loop];simp(disch:=first|exact uv|fail) only[go_sem,X_ah,d_a,h2,hv,eu,ev,c,Int.natCast_add]
theorem azd {p q:List UInt8} (hl:p.length=q.length) (hb:p.length≤1000000):∃ c:Bool,evL cfg n_ah 0 [.d (.sl ((p).map byteD)),.d (.sl ((q).map byteD))] []=some (.d (.bool (c)),[]):=by
 obtain⟨c,h⟩:=aze p q hl hb p 0 rfl (wq _);have e:((p.length:Int) !=(q.length:Int))=false:=by simp[hl]
 refine⟨c,Eq.trans ?_ h⟩;rw[o_ah];simp(disch:=first|exact uv|fail) only[go_sem,X_ah,c_ah,e,Int.natCast_zero,u3]
