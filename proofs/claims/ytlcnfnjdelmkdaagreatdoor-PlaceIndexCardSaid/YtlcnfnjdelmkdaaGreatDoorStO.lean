import Derived.Test.YtlcnfnjdelmkdaaGreatDoorStM
namespace Go.Proofs.YtlcnfnjdelmkdaaGreatDoor
open Go Go.Ev
set_option maxHeartbeats 8000000
def finS (t:Ty) (s:Sv) (ok:Bool):Sv×Nat:=
 if(!ok||(s.has&&(badL t s.mn||badL t s.mx)))=true then(sv0,2) else(⟨s.cnt,s.null,s.has,s.mn,s.mx,s.sums,if s.sums=true then s.sum else 0⟩,0)
section
variable (n:Nd) (b:List UInt8) (hl:b.length≤100000)
variable {f:Fld} (h:(aa b).2=0) (h2:uM (aa b).1 1≤262144) (hn:(aa b).1.length≤1000000) (hb:∀ f∈(aa b).1,f.b.length≤1000000) (hk:0<partM n.kind) (hf:lastM (aa b).1 (partM n.kind).toNat 2=some f)
include h h2 hn hb hk hf hl
theorem read_fin (h3:(aa f.b).2=0) (has:Bool) (i1 n1:Int) (b1:D) (x1:List UInt8) (i2 n2:Int) (b2:D) (x2:List UInt8) (sums:Bool) (sum:Int) (ok:Bool)
  (hb1:b1.can=txt x1∧b1.isCell=true) (hb2:b2.can=txt x2∧b2.isCell=true) (hi1:inI i1) (hi2:inI i2) (hx1:x1.length≤100000) (hx2:x2.length≤100000)
  (h4:evL cfg n_aj 1 [.ref 0 63 0,.ref 0 12 0] (mF n b f)=some (.d (.int .i64 (0)),mS (boxA n) n (aa f.b).1 (uM (aa b).1 1:Int) (uM (aa b).1 10 !=0) has i1 n1 b1 i2 n2 b2 sums sum ok)):
  evL cfg n_ak 0 [.d n.d,.d (.sl ((b).map byteD))] []=some (resS (finS n.ty ⟨(uM (aa b).1 1:Int),uM (aa b).1 10 !=0,has,leaf i1 n1 x1,leaf i2 n2 x2,sums,sum⟩ ok).1 ((finS n.ty ⟨(uM (aa b).1 1:Int),uM (aa b).1 10 !=0,has,leaf i1 n1 x1,leaf i2 n2 x2,sums,sum⟩ ok).2:Int),[]):=by
 have hp:=bh b y8;have u1:=bx (aa b).1 1 hn;have u10:=bx (aa b).1 10 hn;have ut:=di (aa b).1 (partM n.kind).toNat hn hb;have pt:=a8 n.kind;have hp2:=bh f.b (hb f (fa _ _ hf));have ty:=anm n;unfold Nd.d at ty;have k1:=gj (leaf i1 n1 x1).size (leaf i1 n1 x1) n.ty (z8 _) ((okV_eq _).2 ⟨hi1,by simp only[leaf,Va.b];omega,by simp[leaf,Va.kids],by simp[leaf,Va.kids,okVs]⟩)
 have k2:=gj (leaf i2 n2 x2).size (leaf i2 n2 x2) n.ty (z8 _) ((okV_eq _).2 ⟨hi2,by simp only[leaf,Va.b];omega,by simp[leaf,Va.kids],by simp[leaf,Va.kids,okVs]⟩)
 have f1:=(qi i1 n1 x1).symm;have f2:=(qi i2 n2 x2).symm;obtain⟨c1,g1⟩:=hb1;obtain⟨c2,g2⟩:=hb2;rw[aas y8] at ut;rw[hf] at ut;rw[o_ak];unfold cd at hp hp2;rw[h,show((0:Nat):Int)=0 from rfl] at hp
 rw[h3,show((0:Nat):Int)=0 from rfl] at hp2
 rw[show((1:Nat):Int)=1 from rfl] at u1
 rw[show((10:Nat):Int)=10 from rfl] at u10
 unfold mF at h4;unfold uM at h2 h4 ⊢;unfold uintD at u1 u10;unfold textD at ut;simp only[Option.getD_some,Option.isSome_some] at ut;generalize(aa b).1=fs at *;generalize(aa f.b).1=q at *;have d1:decide ((((lastM fs 1 0).getD fld0).u:Int)>262144)=false:=by simp;omega
 have d10:=b5 ((lastM fs 10 0).getD fld0).u;generalize((lastM fs 1 0).getD fld0).u=v1 at *;generalize((lastM fs 10 0).getD fld0).u=v10 at *;have w1:IntKind.wrap .i64 (v1:Int)=v1:=az y8 y8;have d0:(partM n.kind==0)=false:=by simp;omega
 have e1:∀ t v,(j8 t v !=0)=badL t v:=fun _ _=>rfl
 simp only[mS,mR,boxA,boxN,boxX,boxR,aad,List.cons_append,List.nil_append] at h4;have n8:D.agg [.int .i64 n.kind,.sl n.names,.sl n.kids,.int .i64 n.len,.int .i64 n.prec,.int .i64 (n.scale:Int),.int .i64 n.parent,.int .i64 n.deep]=n.d:=rfl;cases ok with
 | false=>
  unfold finS resS;rw[if_pos zb];dsimp only;rw[sv0_d];simp(maxSteps:=2000000) (disch:=first|exact y7|fail) only[go_sem,X_ak,c_ak,Nd.d,hp,hp2,u1,u10,ut,pt,d1,d10,d0,w1,h4,c1,g1,c2,g2]
  rfl
 | true=>
  cases has with
  | false=>
   unfold finS resS;rw[if_neg zb];dsimp only;simp only[Sv.d,Sv.cs,leaf,Va.null,Va.i,Va.n,Va.b,Va.kids,List.map_nil];cases sums with
   |false=>simp(maxSteps:=2000000) (disch:=first|exact y7|fail) only[go_sem,X_ak,c_ak,Nd.d,hp,hp2,u1,u10,ut,pt,d1,d10,d0,w1,h4,c1,g1,c2,g2]
   |true=>simp(maxSteps:=2000000) (disch:=first|exact y7|fail) only[go_sem,X_ak,c_ak,Nd.d,hp,hp2,u1,u10,ut,pt,d1,d10,d0,w1,h4,c1,g1,c2,g2]
  | true=>
   rcases zf (badL n.ty (leaf i1 n1 x1)) with q1|q1
   · unfold finS resS
     dsimp only;rw[if_pos (by rw[q1];rfl)]
     dsimp only;rw[sv0_d];simp(maxSteps:=2000000) (disch:=first|exact y7|fail) only[go_sem,X_ak,c_ak,Nd.d,hp,hp2,u1,u10,ut,pt,d1,d10,d0,w1,h4,c1,g1,c2,g2,f1,f2,k1,k2,ty,e1,q1]
     rfl
   · rcases zf (badL n.ty (leaf i2 n2 x2)) with q2|q2
     · unfold finS resS
       dsimp only;rw[if_pos (by rw[q1,q2];rfl)]
       dsimp only;rw[sv0_d];simp(maxSteps:=2000000) (disch:=first|exact y7|fail) only[go_sem,X_ak,c_ak,Nd.d,hp,hp2,u1,u10,ut,pt,d1,d10,d0,w1,h4,c1,g1,c2,g2,f1,f2,k1,k2,ty,e1,q1,q2]
       rfl
     · unfold finS resS
       dsimp only;rw[if_neg (by rw[q1,q2];simp)]
       dsimp only;simp only[Sv.d,Sv.cs];cases sums with
       | false=>
        simp(maxSteps:=2000000) (disch:=first|exact y7|fail) only[go_sem,X_ak,c_ak,Nd.d,hp,hp2,u1,u10,ut,pt,d1,d10,d0,w1,h4,c1,g1,c2,g2,f1,f2,k1,k2,ty,e1,q1,q2]
        rfl
       | true=>
        simp(maxSteps:=2000000) (disch:=first|exact y7|fail) only[go_sem,X_ak,c_ak,Nd.d,hp,hp2,u1,u10,ut,pt,d1,d10,d0,w1,h4,c1,g1,c2,g2,f1,f2,k1,k2,ty,e1,q1,q2]
        rfl
end
end Go.Proofs.YtlcnfnjdelmkdaaGreatDoor
namespace Go.Proofs.YtlcnfnjdelmkdaaGreatDoor
open Go Go.Ev
set_option maxHeartbeats 4000000
structure Fl where
 has:Bool
 i1:Int
 n1:Int
 x1:List UInt8
 i2:Int
 n2:Int
 x2:List UInt8
 sums:Bool
 sum:Int
 ok:Bool
 err:Nat
def wI:Option Nat→Int
 |some u=>IntKind.wrap .i64 (u:Int)
 |none=>0
def fillM (k:Int) (sc:Nat) (fs:List Fld):Fl:=
 if k=2 then⟨(lastM fs 1 0).isSome,zI (lastM fs 1 0),0,[],zI (lastM fs 2 0),0,[],(lastM fs 3 0).isSome,zI (lastM fs 3 0),(lastM fs 1 0).isSome==(lastM fs 2 0).isSome,0⟩
 else if k=4 then⟨(lastM fs 1 2).isSome,0,0,((lastM fs 1 2).getD fld0).b,0,0,((lastM fs 2 2).getD fld0).b,(lastM fs 3 0).isSome,zI (lastM fs 3 0),(lastM fs 1 2).isSome==(lastM fs 2 2).isSome,0⟩
 else if k=5 then(if(bm 1 fs []).2=0 then⟨false,0,0,[],0,0,[],(oneU (bm 1 fs []).1).isSome,wI (oneU (bm 1 fs []).1),fewU (bm 1 fs []).1,0⟩ else⟨false,0,0,[],0,0,[],false,0,true,(bm 1 fs []).2⟩)
 else if k=6 then⟨(lastM fs 1 2).isSome,xI sc (lastM fs 1 2),0,[],xI sc (lastM fs 2 2),0,[],(lastM fs 3 2).isSome,xI sc (lastM fs 3 2),exOk sc (lastM fs 1 2)&&exOk sc (lastM fs 2 2)&&((lastM fs 1 2).isSome==(lastM fs 2 2).isSome)&&exOk sc (lastM fs 3 2),0⟩
 else if k=7 then⟨(lastM fs 1 0).isSome,zI (lastM fs 1 0),0,[],zI (lastM fs 2 0),0,[],false,0,(lastM fs 1 0).isSome==(lastM fs 2 0).isSome,0⟩
 else if k=8 then⟨false,0,0,[],0,0,[],(lastM fs 1 0).isSome,zI (lastM fs 1 0),true,0⟩
 else⟨(lastM fs 1 0).isSome,zI (lastM fs 1 0),nanoI (lastM fs 3 0),[],zI (lastM fs 2 0),nanoI (lastM fs 4 0),[],false,0,((lastM fs 1 0).isSome==(lastM fs 2 0).isSome)&&gy (lastM fs 1 0).isSome (lastM fs 3 0)&&gy (lastM fs 1 0).isSome (lastM fs 4 0),0⟩
def Fl.sv (q:Fl) (c:Int) (nl:Bool):Sv:=⟨c,nl,q.has,leaf q.i1 q.n1 q.x1,leaf q.i2 q.n2 q.x2,q.sums,q.sum⟩
def partF (k:Int) (fs:List Fld):Option Fld:=if k=0 then none else lastM fs k.toNat 2
def rdM (t:Ty) (sc:Nat) (b:List UInt8):Sv×Nat:=
 if(aa b).2≠0 then(sv0,(aa b).2)
 else if 262144<uM (aa b).1 1 then(sv0,2)
 else match partF (partM t.kind) (aa b).1 with
  |none=>(⟨(uM (aa b).1 1:Int),uM (aa b).1 10 !=0,false,va0,va0,false,0⟩,0)
  | some f=>if(aa f.b).2≠0 then(sv0,(aa f.b).2)
   else if(fillM (partM t.kind) sc (aa f.b).1).err≠0 then(sv0,(fillM (partM t.kind) sc (aa f.b).1).err)
   else finS t ((fillM (partM t.kind) sc (aa f.b).1).sv (uM (aa b).1 1:Int) (uM (aa b).1 10 !=0)) (fillM (partM t.kind) sc (aa f.b).1).ok
theorem wt_le:∀ {fs:List Fld} {m:Nat},(∀ f∈fs,f.b.length≤m)→wt fs≤(m+1)*fs.length
 | [],m,_=>by simp[wt]
 | f::r,m,h=>by
  have h1:=h f zb;have h2:=wt_le (fs:=r) (m:=m) fun g hg=>h g (by simp[hg])
  rw[wt,List.length_cons,Nat.mul_add,Nat.mul_one];omega
theorem k8 (t:List UInt8) (s:Nat):inI (b6 t s).1:=by
 unfold b6;have z:inI 0:=by unfold inI;omega
 split
 · exact z
 · split
   · exact z
   · exact(xl _ _ 0 z).1
theorem xI_in (sc:Nat) (o:Option Fld):inI (xI sc o):=by
 cases o with
 |none=>exact⟨by simp[xI],by simp[xI]⟩
 |some f=>exact k8 f.b sc
theorem zI_in {fs:List Fld} (hu:∀ f∈fs,f.u<18446744073709551616) (num wire:Nat):inI (zI (lastM fs num wire)):=zag_in (bsf num wire hu)
theorem mc {fs:List Fld} {m:Nat} (hb:∀ f∈fs,f.b.length≤m) (num wire:Nat):((lastM fs num wire).getD fld0).b.length≤m:=by
 cases h:lastM fs num wire with
 |none=>simp[fld0]
 |some f=>exact hb f (fa num wire h)
theorem in0:inI 0:=by unfold inI;omega
theorem o8 (n:Nd) (b:List UInt8) (hl:b.length≤100000) (hs:n.scale≤18) (hsm:partM n.kind=5∨partM n.kind=6→∀ f,partF (partM n.kind) (aa b).1=some f→f.b.length≤2000):evL cfg n_ak 0 [.d n.d,.d (.sl ((b).map byteD))] []=some (resS (rdM n.ty n.scale b).1 ((rdM n.ty n.scale b).2:Int),[]):=by
 obtain⟨p1,p2⟩:=bo b;have hn:(aa b).1.length≤1000000:=y8;have hb:∀ f∈(aa b).1,f.b.length≤1000000:=fun f hf=>aai (p1 f hf) y8
 have ek:partM n.ty.kind=partM n.kind:=rfl;unfold rdM;rw[ek];by_cases h:(aa b).2≠0
 · rw[if_pos h];exact read_e1 n b hl h
 rw[if_neg h];have h:(aa b).2=0:=Decidable.of_not_not h;by_cases h2:262144<uM (aa b).1 1
 · rw[if_pos h2];exact read_e2 n b hl h h2 hn
 rw[if_neg h2];have hk:=sa n.kind;cases hp:partF (partM n.kind) (aa b).1 with
 | none=>
   unfold partF at hp;refine bhx n b hl h y8 hn hb ?_ y8;split at hp
   · rename_i e;exact .inl e
   · exact .inr hp
 | some f=>
   unfold partF at hp;split at hp
   · cases hp
   rename_i k0;have kp:0<partM n.kind:=y8;have hfm:=fa _ _ hp;obtain⟨r1,r2⟩:=bo f.b;have hf0:=p1 f hfm;have gn:(aa f.b).1.length≤1000000:=y8;have gb:partM n.kind=5∨partM n.kind=6→∀ g∈(aa f.b).1,g.b.length≤2000:=fun e g hg=>aai (r1 g hg) (hsm e f (by unfold partF;rw[if_neg k0];exact hp))
   have gl:∀ g∈(aa f.b).1,g.b.length≤100000:=fun g hg=>aai (r1 g hg) y8
   have gb':∀ g∈(aa f.b).1,g.b.length≤1000000:=fun g hg=>aai (r1 g hg) y8
   have gu:=xf f.b;dsimp only;by_cases h3:(aa f.b).2≠0
   · rw[if_pos h3];exact read_e3 n b hl h y8 hn hb kp hp h3
   rw[if_neg h3];have h3:(aa f.b).2=0:=Decidable.of_not_not h3;have nil2:D.nilS.can=txt []∧D.nilS.isCell=true:=⟨rfl,rfl⟩;have tx2:∀ x,(txt x).can=txt x∧(txt x).isCell=true:=fun x=>⟨rfl,rfl⟩
   have F:=fun has i1 n1 b1 x1 i2 n2 b2 x2 sums sum ok=>read_fin n b hl h y8 hn hb kp hp h3 has i1 n1 b1 x1 i2 n2 b2 x2 sums sum ok
   have zi:=fun k=>zI_in gu k 0
   rcases hk with e|e|e|e|e|e|e|e
   · have h4:=fill_2 (aok_A n) n _ gn gu (uM (aa b).1 1:Int) (uM (aa b).1 10 !=0) e
     rw[e];simp only[fillM,Int.reduceEq,↓reduceIte,ne_eq,zz];exact F _ _ _ _ [] _ _ _ [] _ _ _ nil2 nil2 (zi 1) (zi 2) zb zb h4
   · have h4:=fill_4 (aok_A n) n _ gn gu gb' (uM (aa b).1 1:Int) (uM (aa b).1 10 !=0) e
     rw[e];simp only[fillM,Int.reduceEq,↓reduceIte,ne_eq,zz];exact F _ _ _ _ _ _ _ _ _ _ _ _ (tx2 _) (tx2 _) in0 in0 (mc gl 1 2) (mc gl 2 2) h4
   · have gw:wt (aa f.b).1≤100000000:=aai (wt_le (gb (.inl e))) y8
     have h4:=fill_5 (aok_A n) n _ gn gb' (uM (aa b).1 1:Int) (uM (aa b).1 10 !=0) e gw;rw[e];simp only[fillM,Int.reduceEq,↓reduceIte];by_cases c:(bm 1 (aa f.b).1 []).2=0
     · rw[if_pos c] at h4
       simp only[if_pos c,ne_eq,zz,↓reduceIte];exact F _ _ _ _ [] _ _ _ [] _ _ _ nil2 nil2 in0 in0 zb zb h4
     · rw[if_neg c] at h4
       simp only[if_neg c,ne_eq,aao,↓reduceIte];rw[if_pos c];exact read_e4 n b hl h y8 hn hb kp hp h3 _ c h4
   · have h4:=fill_6 (aok_A n) n _ hs gn (fun g hg=>aai (gb (.inr e) g hg) y8) (uM (aa b).1 1:Int) (uM (aa b).1 10 !=0) e
     rw[e];simp only[fillM,Int.reduceEq,↓reduceIte,ne_eq,zz];exact F _ _ _ _ [] _ _ _ [] _ _ _ nil2 nil2 (xI_in _ _) (xI_in _ _) zb zb h4
   · have h4:=fill_7 (aok_A n) n _ gn gu (uM (aa b).1 1:Int) (uM (aa b).1 10 !=0) e
     rw[e];simp only[fillM,Int.reduceEq,↓reduceIte,ne_eq,zz];exact F _ _ _ _ [] _ _ _ [] _ _ _ nil2 nil2 (zi 1) (zi 2) zb zb h4
   · have h4:=fill_8 (aok_A n) n _ gn gu (uM (aa b).1 1:Int) (uM (aa b).1 10 !=0) e
     rw[e];simp only[fillM,Int.reduceEq,↓reduceIte,ne_eq,zz];exact F _ _ _ _ [] _ _ _ [] _ _ _ nil2 nil2 in0 in0 zb zb h4
   · have h4:=fill_9 (aok_A n) n _ gn gu (uM (aa b).1 1:Int) (uM (aa b).1 10 !=0) e
     rw[e];simp only[fillM,Int.reduceEq,↓reduceIte,ne_eq,zz];exact F _ _ _ _ [] _ _ _ [] _ _ _ nil2 nil2 (zi 1) (zi 2) zb zb h4
   · omega
