import Derived.Test.YtkdiccgfbfbjlaaGreatCoA
import Derived.Test.YtkdiccgfbfbjlaaGreatCoF
namespace Go.Proofs.YtkdiccgfbfbjlaaGreat
open Go Go.Ev
set_option maxHeartbeats 2000000
set_option maxRecDepth 100000
theorem below_1 (v:Int):evL cfg n_b8 0 [.d (.int .i64 (v))] []=some (.d (.bool (decide (v<0))),[]):=by
 rw[o_b8];simp(disch:=first|exact uv|fail) only[go_sem,X_b8,c_b8]
theorem rbelow_1 (v:Int):evL cfg n_bx 0 [.d (.int .i64 (v))] []=some (.d (.bool (decide (v<0))),[]):=by
 rw[o_bx];simp(disch:=first|exact uv|fail) only[go_sem,X_bx,c_bx]
abbrev ixE (f:FuncId) (l:List Int) (i:Nat):List (Nat×V):=[(0,.d (i64s l)),(1,.d (.fn f)),(7,.d (.int .i64 ((l.length:Int)))),(8,.d (.int .i64 ((i:Int))))]
theorem ayi (f:FuncId) (hf:f=n_b8∨f=n_bx) (l:List Int) (hp:∀ v∈l,0≤v):∀ (r:List Int) (i:Nat),l.drop i=r→i≤l.length→l.length≤1000000→
  go X_ag [.c (.loop a0h),.b 0,.c (.seq awn .ret)] ⟨ixE f l i,[]⟩=some (.d (.int .i64 (-1)),[])
 | [],i,hr,hi,hl=>by
  have:=fe hr;have:i=l.length:=uw;subst this;have d_a:decide ((l.length:Int)<l.length)=false:=by simp<;>omega
  rw[go_loop];simp(disch:=first|exact uv|fail) only[go_sem,X_ag,d_a]
 | v::r,i,hr,hi,hl=>by
  obtain⟨h1,h2,h3⟩:=gk hr;have ih:=ayi f hf l hp r (i+1) h3 h1 hl;have hv:=hp v (List.mem_of_getElem? h2);have d_a:decide ((i:Int)<l.length)=true:=by simp<;>omega
  have d_c:decide (v<0)=false:=by simp<;>omega
  have b1:=below_1 v;have b2:=rbelow_1 v;rw[go_loop];refine Eq.trans ?_ ih;rcases hf with rfl|rfl
  · simp(disch:=first|exact uv|fail) only[go_sem,X_ag,d_a,d_c,i64s,h2,b1,vt,Option.map_some,Int.natCast_add,ixE]
  · simp(disch:=first|exact uv|fail) only[go_sem,X_ag,d_a,d_c,i64s,h2,b2,vt,Option.map_some,Int.natCast_add,ixE]
theorem me (f:FuncId) (hf:f=n_b8∨f=n_bx) (l:List Int) (hp:∀ v∈l,0≤v) (hl:l.length≤1000000):
  evL cfg n_ba 0 [.d (i64s l),.d (.fn f)] []=some (.d (.bool (false)),[]):=by
 have h:evL cfg n_ag 0 [.d (i64s l),.d (.fn f)] []=some (.d (.int .i64 (-1)),[]):=by
  have:=ayi f hf l hp l 0 rfl (wq _) hl;rw[o_ag];simp only[ixE,i64s] at this ⊢;simp(disch:=first|exact uv|fail) only[go_sem,X_ag,c_ag,u3]
  exact this
 rw[o_ba];unfold i64s at *;simp(disch:=first|exact uv|fail) only[go_sem,X_ba,c_ba,h,Int.reduceLE,Int.reduceNeg,ge_iff_le,decide_false]
def Fine (sg:Bool) (l:List Int):Prop:=∀ v∈l,inI v∧(sg=false→0≤v)
theorem jf {sg:Bool} {l:List Int} (h:Fine sg l) (hl:l.length≤1000000):evL cfg n_bt 0 [.d (i64s l),.d (.bool (sg))] []=some (.d (.bool (false)),[]):=by
 rw[o_bt];cases sg with
 | true=>
  unfold i64s;simp(disch:=first|exact uv|fail) only[go_sem,X_bt,c_bt]
 | false=>
  have hc:=me n_b8 (.inl rfl) l (fun v hv=>(h v hv).2 rfl) hl
  unfold i64s at *;simp(disch:=first|exact uv|fail) only[go_sem,X_bt,c_bt,hc]
def Gets (r:Ans) (n:Nat):Prop:=∃ x:List UInt8,(x.length≤n∧x≠[])∧r=some (.own false 1 (x.map byteD),[])
theorem d6 {b q:List UInt8} {n:Nat} (h:b.length+q.length≤n) (hq:q≠[]:=by simp):Gets (some (.own false 1 (b.map byteD++q.map byteD),[])) n:=⟨b++q,⟨by simpa using h,by simp[hq]⟩,by simp⟩
theorem gets2 {b:List UInt8} {u v:UInt8} {n:Nat} (h:b.length+2≤n):Gets (some (.own false 1 (b.map byteD++[byteD u,byteD v]),[])) n:=d6 (q:=[u,v]) h
theorem gets02 {u v:UInt8} {n:Nat} (h:2≤n):Gets (some (.own false 1 [byteD u,byteD v],[])) n:=gets2 (b:=[]) (by simpa using h)
open Classical in
theorem gets_fn {α:Type} {r:α→Ans} {n:α→Nat} {P:α→Prop} (h:∀ a,P a→Gets (r a) (n a)):∃ F:α→List UInt8,∀ a,P a→((F a).length≤n a∧F a≠[])∧r a=some (.own false 1 ((F a).map byteD),[]):=
 ⟨fun a=>if q:P a then(h a q).choose else[],fun a ha=>by
  simp only[dif_pos ha];exact(h a ha).choose_spec⟩
def ownB (x:List UInt8):V:=match x with
 | []=> .d .nilS
 |y::r=> .own false 1 ((y::r).map byteD)
theorem af:ownB []= .d .nilS:=rfl
theorem ae {x:List UInt8} (h:x≠[]):ownB x= .own false 1 (x.map byteD):=by
 cases x with
 |nil=>exact absurd rfl h
 |cons y r=>rfl
theorem eq (x:List UInt8):(ownB x).home 0=ownB x:=by cases x<;>rfl
theorem kv {b:List UInt8} (hz:b≠[]) (hl:b.length≤1000000):evL cfg n_az 0 [.d (.sl ((b).map byteD))] []=some (.own false 1 (b.map byteD),[]):=by
 have:=fg b hl;cases b with
 |nil=>exact absurd rfl hz
 |cons x r=>exact this
theorem ku:evL cfg n_az 0 [.d (.sl [])] []=some (.d .nilS,[]):=fg [] uy
theorem s9 {b:List UInt8} (hb:b.length≤1000000) (k c n:Int) (hk:0≤k):Gets (evL cfg n_cw 0 [.d (.sl ((b).map byteD)),.d (.int .i64 (k)),.d (.int .i64 (c)),.d (.int .i64 (n))] []) (b.length+2):=by
 rw[o_cw];by_cases hz:b=[]
 · subst hz
   have hc:=ku;simp(disch:=first|exact uv|fail) only[go_sem,X_cw,c_cw,hc,ej,a7,List.map_nil,wB]
   exact gets02 (u9 _)
 · have hc:=kv hz hb
   simp(disch:=first|exact uv|fail) only[go_sem,X_cw,c_cw,hc,ej,a7,wB]
   exact gets2 (u9 _)
theorem big_ans {b:List UInt8} (hz:b≠[]) (hb:b.length≤1000000) (u:Nat) {n:Int} (h1:1≤n) (h8:n≤8):Gets (evL cfg n_ak 0 [.d (.sl ((b).map byteD)),.d (.int .u64 ((u:Int))),.d (.int .i64 (n))] []) (b.length+8):=by
 have hc:=kv hz hb;rw[o_ak];obtain rfl|rfl|rfl|rfl|rfl|rfl|rfl|rfl:n=1∨n=2∨n=3∨n=4∨n=5∨n=6∨n=7∨n=8:=uw
 · simp(disch:=first|exact uv|fail) only[go_sem,X_ak,c_ak,hc,a7,wB,Int.reduceBEq,w7,List.cons_append,List.nil_append]
   exact d6 (q:=[_]) uy
 · simp(disch:=first|exact uv|fail) only[go_sem,X_ak,c_ak,hc,a7,wB,Int.reduceBEq,w7,List.cons_append,List.nil_append]
   exact d6 (q:=[_,_]) uy
 · simp(disch:=first|exact uv|fail) only[go_sem,X_ak,c_ak,hc,a7,wB,Int.reduceBEq,w7,List.cons_append,List.nil_append]
   exact d6 (q:=[_,_,_]) uy
 · simp(disch:=first|exact uv|fail) only[go_sem,X_ak,c_ak,hc,a7,wB,Int.reduceBEq,w7,List.cons_append,List.nil_append]
   exact d6 (q:=[_,_,_,_]) uy
 · simp(disch:=first|exact uv|fail) only[go_sem,X_ak,c_ak,hc,a7,wB,Int.reduceBEq,w7,List.cons_append,List.nil_append]
   exact d6 (q:=[_,_,_,_,_]) uy
 · simp(disch:=first|exact uv|fail) only[go_sem,X_ak,c_ak,hc,a7,wB,Int.reduceBEq,w7,List.cons_append,List.nil_append]
   exact d6 (q:=[_,_,_,_,_,_]) uy
 · simp(disch:=first|exact uv|fail) only[go_sem,X_ak,c_ak,hc,a7,wB,Int.reduceBEq,w7,List.cons_append,List.nil_append]
   exact d6 (q:=[_,_,_,_,_,_,_]) uy
 · simp(disch:=first|exact uv|fail) only[go_sem,X_ak,c_ak,hc,a7,wB,Int.reduceBEq,w7,List.cons_append,List.nil_append]
   exact d6 (q:=[_,_,_,_,_,_,_,_]) uy
set_option maxRecDepth 100000
theorem as4 {b:List UInt8} (hb:b.length≤900000) {sg:Bool} {v:Int} (h:Fine sg [v]) {n:Int} (h3:3≤n) (h10:n≤10):
   ∃ x:List UInt8,x≠[]∧x.length≤b.length+9∧evL cfg n_br 0 [.d (.sl ((b).map byteD)),.d (.int .i64 (v)),.d (.int .i64 (n)),.d (.bool (sg))] []=some (.d (.tup [.sl (x.map byteD),.int .i64 0]),[]):=by
 have hb1:=jf h uy;obtain⟨u,hu,hbits⟩:=gr (h v uy).1 sg;obtain⟨w,hw,hBits⟩:=dy hu;simp only[i64s,List.map_cons,List.map_nil] at hb1;have d_a:decide (n<3)=false:=by simp<;>omega
 have d_c:decide (n>10)=false:=by simp<;>omega
 obtain⟨q,hq0,hq8,e1⟩:∃ q:Int,0≤q∧q≤8∧IntKind.i64.wrap (Int.tdiv ((w:Int)+7) 8)=q:=⟨(((w+7) / 8:Nat):Int),by omega,by omega,by
   rw[show(w:Int)+7=((w+7:Nat):Int) by omega,show((8:Int))=((8:Nat):Int) from rfl,← Int.ofNat_tdiv]
   exact wrap_i64 uw uw⟩
 obtain⟨m,hm1,hm8,e2⟩:∃ m:Int,1≤m∧m≤8∧max q 1=m:=⟨max q 1,by omega,by omega,rfl⟩
 obtain⟨F,hF⟩:=gets_fn (fun(y:UInt8) (_:True)=>big_ans (b:=b++[y]) uy (by simp;omega) u hm1 hm8)
 have g2:=fun y=>(hF y trivial).2
 have g1:=fun y=>(hF y trivial).1.1
 have g0:=fun y=>(hF y trivial).1.2
 simp only[List.map_append,List.map_cons,List.map_nil,v9,List.length_cons,List.length_nil] at g2 g1;rw[o_br];by_cases hz:b=[]
 · subst hz
   have hc:=ku;simp only[List.map_nil,List.nil_append,List.length_nil] at g2 g1;simp(disch:=first|exact uv|fail) only[go_sem,X_br,c_br,hb1,d_a,d_c,hbits,hBits,hc,ej,a7,apk,wB,List.map_nil,e1,e2,g2]
   refine⟨_,g0 _,?_,rfl⟩;exact wg (g1 _) uw
 · have hc:=kv hz uw
   simp(disch:=first|exact uv|fail) only[go_sem,X_br,c_br,hb1,d_a,d_c,hbits,hBits,hc,ej,a7,apk,wB,e1,e2,g2]
   refine⟨_,g0 _,?_,rfl⟩;exact wg (g1 _) uw
theorem setB (k:IntKind) (n:Int) (z:UInt8):(D.int k n).setAt 0 [byteD z]=some (byteD z):=rfl
theorem setL (x:List UInt8) (j:Nat) (z:UInt8):(x.map byteD).set j (byteD z)=(x.set j z).map byteD:=by rw[List.map_set]
abbrev pkE (w:Int) (o:V) (r v lf:Int) (l:List Nat) (i:Nat):List (Nat×V):=[(2,.d (.int .i64 (w))),(7,o),(8,.d (.int .i64 (r))),(10,.d (.int .u64 (v))),(11,.d (.int .i64 (lf))),(23,.d (u64s l)),(24,.d (.int .i64 ((l.length:Int)))),(25,.d (.int .i64 ((i:Int))))]
theorem pk_mid (w:Int) (x:List UInt8) (hx:x≠[]) (hl:x.length≤10000000) (r v lf:Int) (hr:0<r) (hr8:r≤8) (h0:0<lf) (h64:lf≤64) (l:List Nat) (i:Nat) (K:List Kf):
  ∃ x':List UInt8,x'.length=x.length∧go X_av (.c (.seq rz (.seq ry (.seq rx rt)))::K) ⟨pkE w (.own false 1 (x.map byteD)) r v lf l i,[]⟩=go X_av K ⟨pkE w (.own false 1 (x'.map byteD)) (r-min lf r) v (lf-min lf r) l i,[]⟩:=by
 have hp:0<x.length:=xj.2 hx;obtain⟨y,hy⟩:∃ y,x[x.length-1]? =some y:=⟨_,u4 uw⟩
 have e1:(x.length:Int)-1=((x.length-1:Nat):Int):=uw;obtain⟨m,hm1,hm2,hm3,e2⟩:∃ m:Int,1≤m∧m≤lf∧m≤r∧min lf r=m:=⟨min lf r,by omega,by omega,by omega,rfl⟩
 rw[e2]
 have ey:=bp y;simp(disch:=first|exact uv|fail) only[go_sem,X_av,pkE,u64s,e2,e1,hy,ey,setB,setL,ej,a7,oB,vt,Option.map_some,u3]
 exact⟨_,by rw[List.length_set],rfl⟩
theorem zB:D.int .u8 0=byteD 0:=rfl
theorem pk_in (w:Int) (l:List Nat) (i:Nat) (v:Int) (K:List Kf):∀ (n lf r:Nat) (x:List UInt8),lf≤n→lf≤64→r≤8→(0<r→x≠[])→x.length+lf≤9000000→
  ∃ (x':List UInt8) (r':Nat),(x.length≤x'.length∧x'.length≤x.length+lf)∧r'≤8∧(0<r'→x'≠[])∧go X_av (.c (.loop ly):: .b 2::K) ⟨pkE w (ownB x) r v lf l i,[]⟩=go X_av K ⟨pkE w (ownB x') r' v 0 l i++[(31,.d (.bool (false)))],[]⟩
 | n,0,r,x,_,_,hr,hx,hl=>by
  refine⟨x,r,⟨u9 _,by omega⟩,hr,hx,?_⟩
  rw[go_loop];simp(disch:=first|exact uv|fail) only[go_sem,X_av,pkE,u64s,eq,List.cons_append,List.nil_append,Int.reduceGT,decide_false,gt_iff_lt,Int.reduceLT]
 |0,lf+1,r,x,h,_,_,_,_=>by omega
 | n+1,lf+1,r,x,h,h64,hr,hx,hl=>by
  have d_a:decide (((lf+1:Nat):Int)>0)=true:=by simp<;>omega
  by_cases h0:r=0
  · subst h0
    obtain⟨x1,hx1,e1⟩:=pk_mid w (x++[0]) uy (by simp;omega) 8 v ((lf+1:Nat):Int) uw uw uw uw l i (.b 3:: .c (.loop ly):: .b 2::K)
    rw[v9,List.length_singleton] at hx1;rw[show(8:Int)-min ((lf+1:Nat):Int) 8=((8-min (lf+1) 8:Nat):Int) by omega,show((lf+1:Nat):Int)-min ((lf+1:Nat):Int) 8=((lf+1-min (lf+1) 8:Nat):Int) by omega] at e1
    have hne:x1≠[]:=by intro e;rw[e] at hx1;simp at hx1
    obtain⟨x2,r2,h1,h2,h3,e2⟩:=pk_in w l i v K n (lf+1-min (lf+1) 8) (8-min (lf+1) 8) x1 uw uw uw (fun _=>hne) uw
    refine⟨x2,r2,⟨by omega,by omega⟩,h2,h3,Eq.trans ?_ (e1.trans (Eq.trans ?_ e2))⟩
    · by_cases hz:x=[]
      · subst hz
        rw[go_loop];simp(disch:=first|exact uv|fail) only[go_sem,X_av,pkE,u64s,List.map_nil,List.nil_append,af,d_a,zB,List.map_cons,Int.natCast_zero]
      · rw[ae hz,go_loop]
        simp(disch:=first|exact uv|fail) only[go_sem,X_av,pkE,u64s,d_a,zB,List.map_append,List.map_cons,List.map_nil]
    · rw[ae hne]
      simp(disch:=first|exact uv|fail) only[go_sem,X_av,pkE]
  · have hz:=hx uw
    obtain⟨x1,hx1,e1⟩:=pk_mid w x hz uw (r:Int) v ((lf+1:Nat):Int) uw uw uw uw l i (.b 3:: .c (.loop ly):: .b 2::K);rw[show(r:Int)-min ((lf+1:Nat):Int) (r:Int)=((r-min (lf+1) r:Nat):Int) by omega,show((lf+1:Nat):Int)-min ((lf+1:Nat):Int) (r:Int)=((lf+1-min (lf+1) r:Nat):Int) by omega] at e1
    have hne:x1≠[]:=by
      intro e;rw[e] at hx1;exact hz (wd hx1.symm)
    obtain⟨x2,r2,h1,h2,h3,e2⟩:=pk_in w l i v K n (lf+1-min (lf+1) r) (r-min (lf+1) r) x1 uw uw uw (fun _=>hne) uw
    refine⟨x2,r2,⟨by omega,by omega⟩,h2,h3,Eq.trans ?_ (e1.trans (Eq.trans ?_ e2))⟩
    · have er:((r:Int)==0)=false:=by simp;omega
      rw[ae hz,go_loop];simp(disch:=first|exact uv|fail) only[go_sem,X_av,pkE,u64s,d_a,er]
    · rw[ae hne]
      simp(disch:=first|exact uv|fail) only[go_sem,X_av,pkE]
abbrev poE (w:Int) (o:V) (r:Int) (l:List Nat) (i:Nat):List (Nat×V):=[(2,.d (.int .i64 (w))),(7,o),(8,.d (.int .i64 (r))),(23,.d (u64s l)),(24,.d (.int .i64 ((l.length:Int)))),(25,.d (.int .i64 ((i:Int))))]
theorem pk_out (w:Nat) (hw:w≤64) (l:List Nat) (hn:l.length≤10000):∀ (q:List Nat) (i r:Nat) (x:List UInt8),l.drop i=q→i≤l.length→r≤8→(0<r→x≠[])→x.length+64*q.length≤8000000→
  ∃ x':List UInt8,(x.length≤x'.length∧x'.length≤x.length+64*q.length)∧go X_av [.c (.loop tp),.b 0,.c (.seq rq .ret)] ⟨poE w (ownB x) r l i,[]⟩=some (ownB x',[])
 | [],i,r,x,hq,hi,hr,hx,hl=>by
  have:=fe hq;have:i=l.length:=uw;subst this;have d_a:decide ((l.length:Int)<l.length)=false:=by simp<;>omega
  refine⟨x,⟨u9 _,by omega⟩,?_⟩
  rw[go_loop];by_cases hz:x=[]
  · subst hz
    simp(disch:=first|exact uv|fail) only[go_sem,X_av,poE,u64s,af,d_a]
  · rw[ae hz]
    simp(disch:=first|exact uv|fail) only[go_sem,X_av,poE,u64s,d_a]
 | v::q,i,r,x,hq,hi,hr,hx,hl=>by
  obtain⟨h1,h2,h3⟩:=gk hq;have d_a:decide ((i:Int)<l.length)=true:=by simp<;>omega
  rw[List.length_cons] at hl;obtain⟨x1,r1,g1,g2,g3,e1⟩:=pk_in w l i (v:Int) (.b 1:: .c rr:: .c (.loop tp):: .b 0:: .c (.seq rq .ret)::[]) w w r x (u9 _) hw hr hx uw;obtain⟨x2,k1,e2⟩:=pk_out w hw l hn q (i+1) r1 x1 h3 h1 g2 g3 uw;refine⟨x2,⟨by omega,by rw[List.length_cons];omega⟩,Eq.trans ?_ (e1.trans (Eq.trans ?_ e2))⟩
  · rw[go_loop]
    simp(disch:=first|exact uv|fail) only[go_sem,X_av,poE,pkE,u64s,d_a,h2,eq]
  · simp(disch:=first|exact uv|fail) only[go_sem,X_av,poE,pkE,u64s,eq,List.cons_append,List.nil_append,Int.natCast_add]
theorem apg {b:List UInt8} (hb:b.length≤900000) (l:List Nat) (hn:l.length≤10000) (w:Nat) (hw:w≤64):∃ x:List UInt8,(b.length≤x.length∧x.length≤b.length+64*l.length)∧evL cfg n_av 0 [.d (.sl ((b).map byteD)),.d (u64s l),.d (.int .i64 ((w:Int)))] []=some (ownB x,[]):=by
 obtain⟨x,h1,h2⟩:=pk_out w hw l hn l 0 0 b rfl (wq _) uw uw uw;refine⟨x,h1,?_⟩;have d_a:decide ((w:Int)<0)=false:=by simp<;>omega
 have d_c:decide ((w:Int)>64)=false:=by simp<;>omega
 rw[o_av,← h2];by_cases hz:b=[]
 · subst hz
   have hc:=ku;simp(disch:=first|exact uv|fail) only[go_sem,X_av,c_av,hc,d_a,d_c,poE,u64s,af,Int.natCast_zero]
 · have hc:=kv hz uw
   rw[ae hz];simp(disch:=first|exact uv|fail) only[go_sem,X_av,c_av,hc,d_a,d_c,poE,u64s,Int.natCast_zero]
