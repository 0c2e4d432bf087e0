import Derived.Test.YtlcnfnjdelmkdaaGreatDoorStS
import Derived.Test.YtlcnfnjdelmkdaaGreatDoorVaF
set_option linter.unusedSectionVars false
namespace Go.Proofs.YtlcnfnjdelmkdaaGreatDoor
open Go Go.Ev
set_option maxHeartbeats 8000000
set_option maxRecDepth 10000
section
variable (t:Ty) (b:List UInt8) (hl:b.length≤2000)
include hl
section
variable (h:(aa b).2=0) (h2:uM (aa b).1 1≤262144) (hn:(aa b).1.length≤1000000) (hb:∀ f∈(aa b).1,f.b.length≤1000000)
include h h2 hn hb
section
variable {f:Fld} (hk:0<partM t.kind) (hf:lastM (aa b).1 (partM t.kind).toNat 2=some f) (h3:(aa f.b).2=0) (gn:(aa f.b).1.length≤1000000) (gb:∀ g∈(aa f.b).1,g.b.length≤4000) (gu:∀ g∈(aa f.b).1,g.u<18446744073709551616) (ho:ownM t=0)
include hk hf h3 gn gb gu ho
theorem rr_k9 (hkp:partM t.kind=9):evL cfg n_aa 0 [.d t.d,.d (.sl ((b).map byteD))] []=some (resS (finR t ⟨(uM (aa b).1 1:Int),(uM (aa b).1 10 !=0),(lastM (aa f.b).1 1 0).isSome,leaf (zI (lastM (aa f.b).1 1 0)) (nanoI (lastM (aa f.b).1 3 0)) ([]),leaf (zI (lastM (aa f.b).1 2 0)) (nanoI (lastM (aa f.b).1 4 0)) ([]),false,0⟩ (((lastM (aa f.b).1 1 0).isSome==(lastM (aa f.b).1 2 0).isSome)&&gy (lastM (aa f.b).1 1 0).isSome (lastM (aa f.b).1 3 0)&&gy (lastM (aa f.b).1 1 0).isSome (lastM (aa f.b).1 4 0))).1 ((finR t ⟨(uM (aa b).1 1:Int),(uM (aa b).1 10 !=0),(lastM (aa f.b).1 1 0).isSome,leaf (zI (lastM (aa f.b).1 1 0)) (nanoI (lastM (aa f.b).1 3 0)) ([]),leaf (zI (lastM (aa f.b).1 2 0)) (nanoI (lastM (aa f.b).1 4 0)) ([]),false,0⟩ (((lastM (aa f.b).1 1 0).isSome==(lastM (aa f.b).1 2 0).isSome)&&gy (lastM (aa f.b).1 1 0).isSome (lastM (aa f.b).1 3 0)&&gy (lastM (aa f.b).1 1 0).isSome (lastM (aa f.b).1 4 0))).2:Int),[]):=by
 have hp:=al b y8;have f1:=au t.kind;have f2:=ao t.kind;have hpm:=db t.kind;have u1:=ag (aa b).1 1 hn;have u10:=ag (aa b).1 10 hn;rw[o_aa,eh];unfold cd at hp;rw[h,show((0:Nat):Int)=0 from rfl] at hp
 rw[show((1:Nat):Int)=1 from rfl] at u1
 rw[show((10:Nat):Int)=10 from rfl] at u10
 unfold uM at h2 ⊢;unfold uintD at u1 u10;have g:=ax (aa b).1 (partM t.kind).toNat hn hb;rw[hf,aas y8] at g;dsimp only at g;rw[h3,show((0:Nat):Int)=0 from rfl] at g
 have a1:=i9 (aa f.b).1 gn gu;have a3:=ag (aa f.b).1 3 gn;rw[show((3:Nat):Int)=3 from rfl] at a3
 unfold uintD at a3;have a4:=ag (aa f.b).1 4 gn;rw[show((4:Nat):Int)=4 from rfl] at a4
 unfold uintD at a4;have j1:=zI_in gu 1 0;have j2:=zI_in gu 2 0;generalize(aa b).1=fs at *;generalize(aa f.b).1=qs at *;have d1:decide ((((lastM fs 1 0).getD fld0).u:Int)>262144)=false:=by simp;omega
 have d10:=b5 ((lastM fs 10 0).getD fld0).u;generalize((lastM fs 1 0).getD fld0).u=v1 at *;generalize((lastM fs 10 0).getD fld0).u=v10 at *;have w1:IntKind.wrap .i64 (v1:Int)=v1:=az y8 y8;rcases zf (decide (t.kind≥1)&&decide (t.kind≤4)) with k0|k0
 · rw[k0,if_pos rfl] at hpm
   omega
 rw[k0,if_neg zb] at hpm;rcases zf (textK t.kind&&t.kind !=8) with k1|k1
 · rw[k1,if_pos rfl] at hpm
   omega
 rw[k1,if_neg zb] at hpm;rcases zf (t.kind==0) with k2|k2
 · rw[k2,if_pos rfl] at hpm
   omega
 rw[k2,if_neg zb] at hpm;rcases zf (t.kind==14) with k3|k3
 · rw[k3,if_pos rfl] at hpm
   omega
 rw[k3,if_neg zb] at hpm;rcases zf (t.kind==15) with k4|k4
 · rw[k4,if_pos rfl] at hpm
   omega
 rw[k4,if_neg zb] at hpm;rcases zf (t.kind==8) with k5|k5
 · rw[k5,if_pos rfl] at hpm
   omega
 rw[k5,if_neg zb] at hpm;rcases zf (t.kind==9) with k6|k6
 · rw[k6,if_pos rfl] at hpm
   rw[hpm] at g;have b3:decide ((((lastM qs 3 0).getD fld0).u:Int)<4294967296)=decide (((lastM qs 3 0).getD fld0).u≤4294967295):=by rw[aal];simp only[zm];omega
   have b4:decide ((((lastM qs 4 0).getD fld0).u:Int)<4294967296)=decide (((lastM qs 4 0).getD fld0).u≤4294967295):=by rw[aal];simp only[zm];omega
   unfold gy;unfold zI nanoI at *;generalize hz1:(lastM qs 1 0).isSome=s1 at *;generalize((lastM qs 1 0).getD fld0).u=y1 at *;generalize hz2:(lastM qs 2 0).isSome=s2 at *;generalize((lastM qs 2 0).getD fld0).u=y2 at *;generalize hz3:(lastM qs 3 0).isSome=s3 at *;generalize((lastM qs 3 0).getD fld0).u=y3 at *;generalize hz4:(lastM qs 4 0).isSome=s4 at *;generalize((lastM qs 4 0).getD fld0).u=y4 at *;generalize zagI y1=z1 at *;generalize zagI y2=z2 at *;generalize decide (y3≤4294967295)=c3 at *;generalize decide (y4≤4294967295)=c4 at *;have T:=fun ok=>bu t v1 (v10 !=0) s1 z1 (IntKind.wrap .i64 (y3:Int)) .nilS [] z2 (IntKind.wrap .i64 (y4:Int)) .nilS [] false 0 ok ho ⟨rfl,rfl⟩ ⟨rfl,rfl⟩ j1 j2 zb zb
   simp only[mT,boxT,dk,dx,List.cons_append,List.nil_append,X_aa] at T;rcases zf (s1==s2) with e|e
   · rw[e]
     rcases zf (s3==s1) with q3|q3
     · rw[q3]
       rcases zf (s4==s1) with q4|q4
       · rw[q4]
         cases c3 with
         | false=>
          refine Eq.trans ?_ (T _);simp(maxSteps:=2000000) (disch:=first|exact y7|fail) only[go_sem,X_aa,refB,hp,f1,f2,u1,u10,d1,d10,w1,g,k0,k1,k2,k3,k4,k5,k6,a1,a3,a4,b3,b4,e,q3,q4]
         | true=>
          refine Eq.trans ?_ (T _);simp(maxSteps:=2000000) (disch:=first|exact y7|fail) only[go_sem,X_aa,refB,hp,f1,f2,u1,u10,d1,d10,w1,g,k0,k1,k2,k3,k4,k5,k6,a1,a3,a4,b3,b4,e,q3,q4]
       · rw[q4]
         refine Eq.trans ?_ (T _);simp(maxSteps:=2000000) (disch:=first|exact y7|fail) only[go_sem,X_aa,refB,hp,f1,f2,u1,u10,d1,d10,w1,g,k0,k1,k2,k3,k4,k5,k6,a1,a3,a4,b3,b4,e,q3,q4]
     · rw[q3]
       refine Eq.trans ?_ (T _);simp(maxSteps:=2000000) (disch:=first|exact y7|fail) only[go_sem,X_aa,refB,hp,f1,f2,u1,u10,d1,d10,w1,g,k0,k1,k2,k3,k4,k5,k6,a1,a3,a4,b3,b4,e,q3]
   · rw[e]
     refine Eq.trans ?_ (T _);simp(maxSteps:=2000000) (disch:=first|exact y7|fail) only[go_sem,X_aa,refB,hp,f1,f2,u1,u10,d1,d10,w1,g,k0,k1,k2,k3,k4,k5,k6,a1,a3,a4,b3,b4,e]
 rw[k6,if_neg zb] at hpm;omega
end
end
end
end Go.Proofs.YtlcnfnjdelmkdaaGreatDoor
namespace Go.Proofs.YtlcnfnjdelmkdaaGreatDoor
open Go Go.Ev
set_option maxHeartbeats 8000000
theorem bfy {k:Int} (h:partM k≠0):k=0∨k=1∨k=2∨k=3∨k=4∨k=7∨k=8∨k=9∨k=14∨k=15∨k=16∨k=17:=by
 unfold partM at h;apply Classical.byContradiction;intro hc;simp only[not_or] at hc;obtain⟨c0,c1,c2,c3,c4,c7,c8,c9,c14,c15,c16,c17⟩:=hc;have e:∀ n:Int,k≠n→(k==n)=false:=fun n hn=>by simp[hn]
 rw[e 0 c0,e 1 c1,e 2 c2,e 3 c3,e 4 c4,e 7 c7,e 8 c8,e 9 c9,e 14 c14,e 15 c15,e 16 c16,e 17 c17] at h;exact h rfl
theorem leaf_eq (k:Int) (ns:List Tx) (ks:List Ty) (l p s:Int) (hk:partM k≠0) (i n:Int) (x:List UInt8):j8 (.mk k [] [] l p s) (leaf i n x)=rchkV (.mk k ns ks l p s) (leaf i n x):=by
 rw[checkV_eq,rchkV_eq];have z:nodeM (.mk k [] [] l p s) (leaf i n x)=cr (.mk k ns ks l p s) (leaf i n x):=by
  rcases bfy hk with rfl|rfl|rfl|rfl|rfl|rfl|rfl|rfl|rfl|rfl|rfl|rfl<;>
  simp(config:={decide:=true}) [nodeM,cr,am1,numsM,ja,longM,anw,ry,textK,leafK,leaf,Ty.kind,Ty.len,Ty.prec,Ty.kids,Va.null,Va.i,Va.n,Va.b,Va.kids]<;>(cases x<;>simp[or_comm]);by_cases hd:(digN i.natAbs:Int)≤p<;>simp[hd]
 rw[z];simp only[leaf,Va.null,Va.kids,checkVs_nil,rchkVs_nil]
theorem bad_eq (k:Int) (ns:List Tx) (ks:List Ty) (l p s:Int) (hk:partM k≠0) (i n:Int) (x:List UInt8):rbadL (.mk k ns ks l p s) (leaf i n x)=badL (.mk k [] [] l p s) (leaf i n x):=by
 unfold rbadL badL;rw[leaf_eq k ns ks l p s hk i n x]
def bare (t:Ty):Ty:= .mk t.kind [] [] t.len t.prec t.scale
theorem fin_eq (t:Ty) (hk:partM t.kind≠0) (q:Fl) (c:Int) (nl ok:Bool):finR t (q.sv c nl) ok=finS (bare t) (q.sv c nl) ok:=by
 obtain⟨k,ns,ks,l,p,s⟩:=t;unfold finR finS Fl.sv bare;simp only[Ty.kind,Ty.len,Ty.prec,Ty.scale];rw[bad_eq k ns ks l p s hk,bad_eq k ns ks l p s hk]
theorem m8 (t:Ty) (sc:Nat) (hsc:t.scale=(sc:Int)) (hs:sc≤18) (ho:ownM t=0) (b:List UInt8) (hl:b.length≤2000):evL cfg n_aa 0 [.d t.d,.d (.sl ((b).map byteD))] []=some (resS (rdM (bare t) sc b).1 ((rdM (bare t) sc b).2:Int),[]):=by
 obtain⟨p1,p2⟩:=bo b;have hn:(aa b).1.length≤1000000:=y8;have hb:∀ f∈(aa b).1,f.b.length≤1000000:=fun f hf=>aai (p1 f hf) y8
 have ek:partM (bare t).kind=partM t.kind:=rfl;unfold rdM;rw[ek];by_cases h:(aa b).2≠0
 · rw[if_pos h];exact rr_e1 t b hl h
 rw[if_neg h];have h:(aa b).2=0:=Decidable.of_not_not h;by_cases h2:262144<uM (aa b).1 1
 · rw[if_pos h2];exact rr_e2 t b hl h h2 hn
 rw[if_neg h2];have h2':uM (aa b).1 1≤262144:=y8;have hk:=sa t.kind;cases hp:partF (partM t.kind) (aa b).1 with
 | none=>
   unfold partF at hp;split at hp
   · rename_i e;exact rr_zero t b hl h h2' hn hb e
   · exact rr_none t b hl h h2' hn hb y8 hp
 | some f=>
   unfold partF at hp;split at hp
   · cases hp
   rename_i k0;have kp:0<partM t.kind:=y8;have hfm:=fa _ _ hp;obtain⟨r1,r2⟩:=bo f.b;have hf0:=p1 f hfm;have gn:(aa f.b).1.length≤1000000:=y8;have gb:∀ g∈(aa f.b).1,g.b.length≤4000:=fun g hg=>aai (r1 g hg) y8
   have gu:=xf f.b;dsimp only;by_cases h3:(aa f.b).2≠0
   · rw[if_pos h3];exact rr_e3 t b hl h h2' hn hb kp hp h3
   rw[if_neg h3];have h3:(aa f.b).2=0:=Decidable.of_not_not h3;rw[← fin_eq t y8];rcases hk with e|e|e|e|e|e|e|e
   · have z:=rr_k2 t b hl h h2' hn hb kp hp h3 gn gb gu ho e
     rw[e];simp only[fillM,Int.reduceEq,↓reduceIte,ne_eq,zz,Fl.sv];exact z
   · have z:=rr_k4 t b hl h h2' hn hb kp hp h3 gn gb gu ho e
     rw[e];simp only[fillM,Int.reduceEq,↓reduceIte,ne_eq,zz,Fl.sv];exact z
   · rw[e]
     simp only[fillM,Int.reduceEq,↓reduceIte];by_cases c:(bm 1 (aa f.b).1 []).2=0
     · have z:=rr_k5 t b hl h h2' hn hb kp hp h3 gn gb gu ho e c
       simp only[if_pos c,ne_eq,zz,↓reduceIte,Fl.sv];exact z
     · have z:=rr_k5e t b hl h h2' hn hb kp hp h3 gn gb gu ho e c
       simp only[if_neg c,ne_eq,aao,↓reduceIte];rw[if_pos c];exact z
   · have z:=rr_k6 t b hl h h2' hn hb kp hp h3 gn gb gu ho sc hsc hs e
     rw[e];simp only[fillM,Int.reduceEq,↓reduceIte,ne_eq,zz,Fl.sv];exact z
   · have z:=rr_k7 t b hl h h2' hn hb kp hp h3 gn gb gu ho e
     rw[e];simp only[fillM,Int.reduceEq,↓reduceIte,ne_eq,zz,Fl.sv];exact z
   · have z:=rr_k8 t b hl h h2' hn hb kp hp h3 gn gb gu ho e
     rw[e];simp only[fillM,Int.reduceEq,↓reduceIte,ne_eq,zz,Fl.sv];exact z
   · have z:=rr_k9 t b hl h h2' hn hb kp hp h3 gn gb gu ho e
     rw[e];simp only[fillM,Int.reduceEq,↓reduceIte,ne_eq,zz,Fl.sv];exact z
   · omega
end Go.Proofs.YtlcnfnjdelmkdaaGreatDoor
namespace Go.Proofs.YtlcnfnjdelmkdaaGreatDoor
open Go Go.Ev
set_option maxHeartbeats 2000000
mutual
def sameV:Va→Va→Bool
 | .mk n i m b ks,y=>if !(n==y.null)||i !=y.i||m !=y.n|| !(b==y.b)||(ks.length:Int) !=(y.kids.length:Int) then false else kj ks y.kids
def kj:List Va→List Va→Bool
 |k::r,x::s=>if !sameV k x then false else kj r s
 |_,_=>true
end
theorem sameV_eq (x y:Va):sameV x y=if !(x.null==y.null)||x.i !=y.i||x.n !=y.n|| !(x.b==y.b)||(x.kids.length:Int) !=(y.kids.length:Int) then false else kj x.kids y.kids:=by
 cases x with
 |mk nl i n b ks=>rw[sameV];rfl
theorem sameVs_cons (k x:Va) (r s:List Va):kj (k::r) (x::s)=if !sameV k x then false else kj r s:=by rw[kj]
theorem sameVs_nil (s:List Va):kj [] s=true:=by rw[kj];simp
theorem ref14_same_loop (a b:Va) (hl:a.kids.length=b.kids.length) (hz:a.kids.length<2 ^ 63) (IH:∀ k∈a.kids,∀ x,evL cfg n_ba 0 [.d k.d,.d x.d] []=some (.d (.bool (sameV k x)),[])):∀ (r s:List Va) (i:Nat),a.kids.drop i=r→b.kids.drop i=s→i≤a.kids.length→
  go X_ba [.c (.loop bty),.b 0,.c (.seq bkd .ret)] ⟨[(2,.ref 0 2 0),(3,.ref 0 3 0),(5,.d (.int .i64 ((i:Int))))],boxV 2 a++boxV 3 b⟩=some (.d (.bool (kj r s)),[])
 | [],s,i,hr,hs,hi=>by
  have:=bd hr;have:i=a.kids.length:=y8;subst this;have d_c:decide ((a.kids.length:Int)<a.kids.length)=false:=by simp<;>omega
  rw[go_loop,sameVs_nil];simp(disch:=first|exact y7|fail) only[go_sem,X_ba,d_c,boxV]
 | k::r,[],i,hr,hs,hi=>by
  have h1:=bd hs;obtain⟨hlt,_,_⟩:=cc hr;omega
 | k::r,x::s,i,hr,hs,hi=>by
  obtain⟨hlt,hc,hr'⟩:=cc hr;obtain⟨hlt',hc',hs'⟩:=cc hs;have hf:=IH k (List.mem_of_getElem? hc) x;have d_c:decide ((i:Int)<a.kids.length)=true:=by simp<;>omega
  have e1:(i:Int)+1=((i+1:Nat):Int):=y8;rw[go_loop,sameVs_cons];generalize sameV k x=q at *;cases q with
  |false=>simp(disch:=first|exact y7|fail) only[go_sem,X_ba,d_c,hc,hc',hf,boxV]
  | true=>
   have ih:=ref14_same_loop a b hl hz IH r s (i+1) hr' hs' y8;simp only[boxV,List.cons_append,List.nil_append] at ih;simp(disch:=first|exact y7|fail) only[go_sem,X_ba,d_c,hc,hc',hf,boxV,e1,ih]
theorem ref14_Same_aux:∀ (m:Nat) (a b:Va),a.size≤m→okV a→evL cfg n_ba 0 [.d a.d,.d b.d] []=some (.d (.bool (sameV a b)),[])
 |0,v,b,h,_=>by have:=v.size_pos;omega
 | m+1,a,b,h,ho=>by
  obtain⟨_,_,hz,h4⟩:=(okV_eq a).1 ho;have IH:∀ k∈a.kids,∀ x,evL cfg n_ba 0 [.d k.d,.d x.d] []=some (.d (.bool (sameV k x)),[]):=fun k hk x=>ref14_Same_aux m k x (by have:=Va.size_kid hk;omega) (okVs_mem h4 hk)
  rw[o_ba,sameV_eq];rcases zf (a.null==b.null) with x1|x1
  rotate_left
  · simp(disch:=first|exact y7|fail) only[go_sem,X_ba,c_ba,x1]
  · rcases zf (a.i !=b.i) with x2|x2
    · simp(disch:=first|exact y7|fail) only[go_sem,X_ba,c_ba,x1,x2]
    · rcases zf (a.n !=b.n) with x3|x3
      · simp(disch:=first|exact y7|fail) only[go_sem,X_ba,c_ba,x1,x2,x3]
      · rcases zf (a.b==b.b) with x4|x4
        rotate_left
        · simp(disch:=first|exact y7|fail) only[go_sem,X_ba,c_ba,x1,x2,x3,x4]
        · rcases zf ((a.kids.length:Int) !=(b.kids.length:Int)) with x5|x5
          · simp(disch:=first|exact y7|fail) only[go_sem,X_ba,c_ba,x1,x2,x3,x4,x5]
          · have hl:a.kids.length=b.kids.length:=by simp at x5;omega
            have h0:=ref14_same_loop a b hl hz IH a.kids b.kids 0 rfl rfl (aaj _);simp only[boxV,nc0,List.cons_append,List.nil_append] at h0;simp(disch:=first|exact y7|fail) only[go_sem,X_ba,c_ba,x1,x2,x3,x4,x5,h0]
theorem ref14_Same_ans {a:Va} (b:Va) (h:okV a):evL cfg n_ba 0 [.d a.d,.d b.d] []=some (.d (.bool (sameV a b)),[]):=ref14_Same_aux _ a b (z8 _) h
end Go.Proofs.YtlcnfnjdelmkdaaGreatDoor
namespace Go.Proofs.YtlcnfnjdelmkdaaGreatDoor
open Go Go.Ev
set_option maxHeartbeats 8000000
set_option maxRecDepth 10000
theorem Of_ans (s:Sv):evL cfg n_dx 0 [.d s.d] []=some (.d s.d,[]):=by
 rw[o_dx];unfold Sv.d Sv.cs;simp(maxSteps:=2000000) (disch:=first|exact y7|fail) only[go_sem,X_dx,c_dx]
mutual
theorem ui:∀ x:Va,sameV x x=true
 | .mk n i m b ks=>by
  rw[sameV];simp only[Va.null,Va.i,Va.n,Va.b,Va.kids,beq_self_eq_true,aaz,bne_self_eq_false,Bool.or_self,zh,if_false];exact rp ks
theorem rp:∀ l:List Va,kj l l=true
 | []=>by rw[kj];simp
 |k::r=>by rw[sameVs_cons,ui k];simp[rp r]
end
theorem Same_ans (s:Sv) (h1:okV s.mn) (h2:okV s.mx):evL cfg n_du 0 [.d s.d,.d s.d] []=some (.d (.bool (true)),[]):=by
 have a1:=ref14_Same_ans s.mn h1;have a2:=ref14_Same_ans s.mx h2;rw[ui] at a1 a2;rw[o_du];obtain⟨cnt,null,has,mn,mx,sums,sum⟩:=s;dsimp only at *;unfold Sv.d Sv.cs;have b1:∀ b:Bool,(b==b)=true:=fun b=>by cases b<;>rfl
 simp(maxSteps:=2000000) (disch:=first|exact y7|fail) only[go_sem,X_du,c_du,a1,a2,b1,beq_self_eq_true]
