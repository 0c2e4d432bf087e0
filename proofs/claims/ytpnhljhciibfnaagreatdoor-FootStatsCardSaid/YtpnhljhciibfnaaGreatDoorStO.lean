import Derived.Test.YtpnhljhciibfnaaGreatDoorStM
set_option linter.unusedSimpArgs false
namespace Go.Proofs.YtpnhljhciibfnaaGreatDoor
set_option linter.unusedSectionVars false
open Go Go.Ev
set_option maxHeartbeats 8000000
def FC (t:Ty) (s:Sv) (ok:Bool):Sv×Nat:=
 if(!ok||(s.has&&(Gi t s.mn||Gi t s.mx)))=true then(sv0,2) else(⟨s.cnt,s.null,s.has,s.mn,s.mx,s.AU,if s.AU=true then s.sum else 0⟩,0)
section
variable (n:Nd) (b:List UInt8) (hl:b.length≤100000)
variable {f:Fld} (h:(aa b).2=0) (h2:uM (aa b).1 1≤262144) (hn:(aa b).1.length≤1000000) (hb:∀ f∈(aa b).1,f.b.length≤1000000) (hk:0<AL n.kind) (hf:AA (aa b).1 (AL n.kind).toNat 2=some f)
include h h2 hn hb hk hf hl
theorem U6 (h3:(aa f.b).2=0) (has:Bool) (i1 n1:Int) (b1:D) (x1:List UInt8) (i2 n2:Int) (b2:D) (x2:List UInt8) (AU:Bool) (sum:Int) (ok:Bool)
  (hb1:b1.can=txt x1∧b1.AW=true) (hb2:b2.can=txt x2∧b2.AW=true) (hi1:inI i1) (hi2:inI i2) (hx1:x1.length≤100000) (hx2:x2.length≤100000)
  (h4:evL cfg FW 1 [.ref 0 63 0,.ref 0 12 0] (mF n b f)=some (.d (.int .i64 (0)),mS (UN n) n (aa f.b).1 (uM (aa b).1 1:Int) (uM (aa b).1 10 !=0) has i1 n1 b1 i2 n2 b2 AU sum ok)):
  evL cfg E6 0 [.d n.d,.d (.sl ((b).map AM))] []=some (A6 (FC n.ty ⟨(uM (aa b).1 1:Int),uM (aa b).1 10 !=0,has,leaf i1 n1 x1,leaf i2 n2 x2,AU,sum⟩ ok).1 ((FC n.ty ⟨(uM (aa b).1 1:Int),uM (aa b).1 10 !=0,has,leaf i1 n1 x1,leaf i2 n2 x2,AU,sum⟩ ok).2:Int),[]):=by
 have hp:=b9 b aa1;have u1:=b5 (aa b).1 1 hn;have u10:=b5 (aa b).1 10 hn;have ut:=fk (aa b).1 (AL n.kind).toNat hn hb;have pt:=ay n.kind;have hp2:=b9 f.b (hb f (iw _ _ hf));have ty:=ao1 n;unfold Nd.d at ty;have k1:=il (leaf i1 n1 x1).size (leaf i1 n1 x1) n.ty (abn _) ((CA _).2 ⟨hi1,by simp only[leaf,Va.b];omega,by simp[leaf,Va.kids],by simp[leaf,Va.kids,Eo]⟩)
 have k2:=il (leaf i2 n2 x2).size (leaf i2 n2 x2) n.ty (abn _) ((CA _).2 ⟨hi2,by simp only[leaf,Va.b];omega,by simp[leaf,Va.kids],by simp[leaf,Va.kids,Eo]⟩)
 have f1:=(r7 i1 n1 x1).symm;have f2:=(r7 i2 n2 x2).symm;obtain⟨c1,g1⟩:=hb1;obtain⟨c2,g2⟩:=hb2;rw[abs aa1] at ut;rw[hf] at ut;rw[TD];unfold dh at hp hp2;rw[h,show((0:Nat):Int)=0 from rfl] at hp
 rw[h3,show((0:Nat):Int)=0 from rfl] at hp2
 rw[show((1:Nat):Int)=1 from rfl] at u1
 rw[show((10:Nat):Int)=10 from rfl] at u10
 unfold mF at h4;unfold uM at h2 h4 ⊢;unfold Bh at u1 u10;unfold Cf at ut;simp only[Option.getD_some,Option.isSome_some] at ut;generalize(aa b).1=fs at *;generalize(aa f.b).1=q at *;have d1:decide ((((AA fs 1 0).getD Af).u:Int)>262144)=false:=by simp;omega
 have d10:=cc ((AA fs 10 0).getD Af).u;generalize((AA fs 1 0).getD Af).u=v1 at *;generalize((AA fs 10 0).getD Af).u=v10 at *;have w1:IntKind.wrap .i64 (v1:Int)=v1:=au aa1 aa1;have d0:(AL n.kind==0)=false:=by simp;omega
 have e1:∀ t v,(ll t v !=0)=Gi t v:=fun _ _=>rfl
 simp only[mS,mR,UN,Cl,FH,FI,abv,List.cons_append,List.nil_append] at h4;have n8:D.agg [.int .i64 n.kind,.sl n.names,.sl n.kids,.int .i64 n.len,.int .i64 n.prec,.int .i64 (n.scale:Int),.int .i64 n.parent,.int .i64 n.deep]=n.d:=rfl;cases ok with
 | false=>
  unfold FC A6;rw[if_pos aa3];dsimp only;rw[Bx];simp(maxSteps:=2000000) (disch:=first|exact aa0|fail) only[go_sem,Ez,EP,Nd.d,hp,hp2,u1,u10,ut,pt,d1,d10,d0,w1,h4,c1,g1,c2,g2]
  rfl
 | true=>
  cases has with
  | false=>
   unfold FC A6;rw[if_neg aa3];dsimp only;simp only[Sv.d,Sv.cs,leaf,Va.null,Va.i,Va.n,Va.b,Va.kids,List.map_nil];cases AU with
   |false=>simp(maxSteps:=2000000) (disch:=first|exact aa0|fail) only[go_sem,Ez,EP,Nd.d,hp,hp2,u1,u10,ut,pt,d1,d10,d0,w1,h4,c1,g1,c2,g2]
   |true=>simp(maxSteps:=2000000) (disch:=first|exact aa0|fail) only[go_sem,Ez,EP,Nd.d,hp,hp2,u1,u10,ut,pt,d1,d10,d0,w1,h4,c1,g1,c2,g2]
  | true=>
   rcases aa5 (Gi n.ty (leaf i1 n1 x1)) with q1|q1
   · unfold FC A6
     dsimp only;rw[if_pos (by rw[q1];rfl)]
     dsimp only;rw[Bx];simp(maxSteps:=2000000) (disch:=first|exact aa0|fail) only[go_sem,Ez,EP,Nd.d,hp,hp2,u1,u10,ut,pt,d1,d10,d0,w1,h4,c1,g1,c2,g2,f1,f2,k1,k2,ty,e1,q1]
     rfl
   · rcases aa5 (Gi n.ty (leaf i2 n2 x2)) with q2|q2
     · unfold FC A6
       dsimp only;rw[if_pos (by rw[q1,q2];rfl)]
       dsimp only;rw[Bx];simp(maxSteps:=2000000) (disch:=first|exact aa0|fail) only[go_sem,Ez,EP,Nd.d,hp,hp2,u1,u10,ut,pt,d1,d10,d0,w1,h4,c1,g1,c2,g2,f1,f2,k1,k2,ty,e1,q1,q2]
       rfl
     · unfold FC A6
       dsimp only;rw[if_neg (by rw[q1,q2];simp)]
       dsimp only;simp only[Sv.d,Sv.cs];cases AU with
       | false=>
        simp(maxSteps:=2000000) (disch:=first|exact aa0|fail) only[go_sem,Ez,EP,Nd.d,hp,hp2,u1,u10,ut,pt,d1,d10,d0,w1,h4,c1,g1,c2,g2,f1,f2,k1,k2,ty,e1,q1,q2]
        rfl
       | true=>
        simp(maxSteps:=2000000) (disch:=first|exact aa0|fail) only[go_sem,Ez,EP,Nd.d,hp,hp2,u1,u10,ut,pt,d1,d10,d0,w1,h4,c1,g1,c2,g2,f1,f2,k1,k2,ty,e1,q1,q2]
        rfl
end
end Go.Proofs.YtpnhljhciibfnaaGreatDoor
namespace Go.Proofs.YtpnhljhciibfnaaGreatDoor
open Go Go.Ev
set_option maxHeartbeats 4000000
structure Fl where
 has:Bool
 i1:Int
 n1:Int
 x1:List UInt8
 i2:Int
 n2:Int
 x2:List UInt8
 AU:Bool
 sum:Int
 ok:Bool
 err:Nat
def wI:Option Nat→Int
 |some u=>IntKind.wrap .i64 (u:Int)
 |none=>0
def BG (k:Int) (sc:Nat) (fs:List Fld):Fl:=
 if k=2 then⟨(AA fs 1 0).isSome,zI (AA fs 1 0),0,[],zI (AA fs 2 0),0,[],(AA fs 3 0).isSome,zI (AA fs 3 0),(AA fs 1 0).isSome==(AA fs 2 0).isSome,0⟩
 else if k=4 then⟨(AA fs 1 2).isSome,0,0,((AA fs 1 2).getD Af).b,0,0,((AA fs 2 2).getD Af).b,(AA fs 3 0).isSome,zI (AA fs 3 0),(AA fs 1 2).isSome==(AA fs 2 2).isSome,0⟩
 else if k=5 then(if(ba 1 fs []).2=0 then⟨false,0,0,[],0,0,[],(E4 (ba 1 fs []).1).isSome,wI (E4 (ba 1 fs []).1),G2 (ba 1 fs []).1,0⟩ else⟨false,0,0,[],0,0,[],false,0,true,(ba 1 fs []).2⟩)
 else if k=6 then⟨(AA fs 1 2).isSome,xI sc (AA fs 1 2),0,[],xI sc (AA fs 2 2),0,[],(AA fs 3 2).isSome,xI sc (AA fs 3 2),B6 sc (AA fs 1 2)&&B6 sc (AA fs 2 2)&&((AA fs 1 2).isSome==(AA fs 2 2).isSome)&&B6 sc (AA fs 3 2),0⟩
 else if k=7 then⟨(AA fs 1 0).isSome,zI (AA fs 1 0),0,[],zI (AA fs 2 0),0,[],false,0,(AA fs 1 0).isSome==(AA fs 2 0).isSome,0⟩
 else if k=8 then⟨false,0,0,[],0,0,[],(AA fs 1 0).isSome,zI (AA fs 1 0),true,0⟩
 else⟨(AA fs 1 0).isSome,zI (AA fs 1 0),CN (AA fs 3 0),[],zI (AA fs 2 0),CN (AA fs 4 0),[],false,0,((AA fs 1 0).isSome==(AA fs 2 0).isSome)&&ff (AA fs 1 0).isSome (AA fs 3 0)&&ff (AA fs 1 0).isSome (AA fs 4 0),0⟩
def Fl.sv (q:Fl) (c:Int) (nl:Bool):Sv:=⟨c,nl,q.has,leaf q.i1 q.n1 q.x1,leaf q.i2 q.n2 q.x2,q.AU,q.sum⟩
def Cg (k:Int) (fs:List Fld):Option Fld:=if k=0 then none else AA fs k.toNat 2
def rdM (t:Ty) (sc:Nat) (b:List UInt8):Sv×Nat:=
 if(aa b).2≠0 then(sv0,(aa b).2)
 else if 262144<uM (aa b).1 1 then(sv0,2)
 else match Cg (AL t.kind) (aa b).1 with
  |none=>(⟨(uM (aa b).1 1:Int),uM (aa b).1 10 !=0,false,va0,va0,false,0⟩,0)
  | some f=>if(aa f.b).2≠0 then(sv0,(aa f.b).2)
   else if(BG (AL t.kind) sc (aa f.b).1).err≠0 then(sv0,(BG (AL t.kind) sc (aa f.b).1).err)
   else FC t ((BG (AL t.kind) sc (aa f.b).1).sv (uM (aa b).1 1:Int) (uM (aa b).1 10 !=0)) (BG (AL t.kind) sc (aa f.b).1).ok
theorem Sf:∀ {fs:List Fld} {m:Nat},(∀ f∈fs,f.b.length≤m)→wt fs≤(m+1)*fs.length
 | [],m,_=>by simp[wt]
 | f::r,m,h=>by
  have h1:=h f aa3;have h2:=Sf (fs:=r) (m:=m) fun g hg=>h g (by simp[hg])
  rw[wt,List.length_cons,Nat.mul_add,Nat.mul_one];omega
theorem mf (t:List UInt8) (s:Nat):inI (az t s).1:=by
 unfold az;have z:inI 0:=by unfold inI;omega
 split
 · exact z
 · split
   · exact z
   · exact(zo _ _ 0 z).1
theorem Se (sc:Nat) (o:Option Fld):inI (xI sc o):=by
 cases o with
 |none=>exact⟨by simp[xI],by simp[xI]⟩
 |some f=>exact mf f.b sc
theorem Fm {fs:List Fld} (hu:∀ f∈fs,f.u<18446744073709551616) (num A0:Nat):inI (zI (AA fs num A0)):=dW (bsj num A0 hu)
theorem ne {fs:List Fld} {m:Nat} (hb:∀ f∈fs,f.b.length≤m) (num A0:Nat):((AA fs num A0).getD Af).b.length≤m:=by
 cases h:AA fs num A0 with
 |none=>simp[Af]
 |some f=>exact hb f (iw num A0 h)
theorem in0:inI 0:=by unfold inI;omega
theorem jm (n:Nd) (b:List UInt8) (hl:b.length≤100000) (hs:n.scale≤18) (hsm:AL n.kind=5∨AL n.kind=6→∀ f,Cg (AL n.kind) (aa b).1=some f→f.b.length≤2000):evL cfg E6 0 [.d n.d,.d (.sl ((b).map AM))] []=some (A6 (rdM n.ty n.scale b).1 ((rdM n.ty n.scale b).2:Int),[]):=by
 obtain⟨p1,p2⟩:=en b;have hn:(aa b).1.length≤1000000:=aa1;have hb:∀ f∈(aa b).1,f.b.length≤1000000:=fun f hf=>abo (p1 f hf) aa1
 have ek:AL n.ty.kind=AL n.kind:=rfl;unfold rdM;rw[ek];by_cases h:(aa b).2≠0
 · rw[if_pos h];exact Yd n b hl h
 rw[if_neg h];have h:(aa b).2=0:=Decidable.of_not_not h;by_cases h2:262144<uM (aa b).1 1
 · rw[if_pos h2];exact Yc n b hl h h2 hn
 rw[if_neg h2];have hk:=iv n.kind;cases hp:Cg (AL n.kind) (aa b).1 with
 | none=>
   unfold Cg at hp;refine bh0 n b hl h aa1 hn hb ?_ aa1;split at hp
   · rename_i e;exact .inl e
   · exact .inr hp
 | some f=>
   unfold Cg at hp;split at hp
   · cases hp
   rename_i k0;have kp:0<AL n.kind:=aa1;have hfm:=iw _ _ hp;obtain⟨r1,r2⟩:=en f.b;have hf0:=p1 f hfm;have gn:(aa f.b).1.length≤1000000:=aa1;have gb:AL n.kind=5∨AL n.kind=6→∀ g∈(aa f.b).1,g.b.length≤2000:=fun e g hg=>abo (r1 g hg) (hsm e f (by unfold Cg;rw[if_neg k0];exact hp))
   have gl:∀ g∈(aa f.b).1,g.b.length≤100000:=fun g hg=>abo (r1 g hg) aa1
   have gb':∀ g∈(aa f.b).1,g.b.length≤1000000:=fun g hg=>abo (r1 g hg) aa1
   have gu:=zg f.b;dsimp only;by_cases h3:(aa f.b).2≠0
   · rw[if_pos h3];exact Yb n b hl h aa1 hn hb kp hp h3
   rw[if_neg h3];have h3:(aa f.b).2=0:=Decidable.of_not_not h3;have nil2:D.AB.can=txt []∧D.AB.AW=true:=⟨rfl,rfl⟩;have tx2:∀ x,(txt x).can=txt x∧(txt x).AW=true:=fun x=>⟨rfl,rfl⟩
   have F:=fun has i1 n1 b1 x1 i2 n2 b2 x2 AU sum ok=>U6 n b hl h aa1 hn hb kp hp h3 has i1 n1 b1 x1 i2 n2 b2 x2 AU sum ok
   have zi:=fun k=>Fm gu k 0
   rcases hk with e|e|e|e|e|e|e|e
   · have h4:=mK (Gj n) n _ gn gu (uM (aa b).1 1:Int) (uM (aa b).1 10 !=0) e
     rw[e];simp only[BG,Int.reduceEq,↓reduceIte,ne_eq,abp];exact F _ _ _ _ [] _ _ _ [] _ _ _ nil2 nil2 (zi 1) (zi 2) aa3 aa3 h4
   · have h4:=mJ (Gj n) n _ gn gu gb' (uM (aa b).1 1:Int) (uM (aa b).1 10 !=0) e
     rw[e];simp only[BG,Int.reduceEq,↓reduceIte,ne_eq,abp];exact F _ _ _ _ _ _ _ _ _ _ _ _ (tx2 _) (tx2 _) in0 in0 (ne gl 1 2) (ne gl 2 2) h4
   · have gw:wt (aa f.b).1≤100000000:=abo (Sf (gb (.inl e))) aa1
     have h4:=mI (Gj n) n _ gn gb' (uM (aa b).1 1:Int) (uM (aa b).1 10 !=0) e gw;rw[e];simp only[BG,Int.reduceEq,↓reduceIte];by_cases c:(ba 1 (aa f.b).1 []).2=0
     · rw[if_pos c] at h4
       simp only[if_pos c,ne_eq,abp,↓reduceIte];exact F _ _ _ _ [] _ _ _ [] _ _ _ nil2 nil2 in0 in0 aa3 aa3 h4
     · rw[if_neg c] at h4
       simp only[if_neg c,ne_eq,ab7,↓reduceIte];rw[if_pos c];exact Ya n b hl h aa1 hn hb kp hp h3 _ c h4
   · have h4:=mH (Gj n) n _ hs gn (fun g hg=>abo (gb (.inr e) g hg) aa1) (uM (aa b).1 1:Int) (uM (aa b).1 10 !=0) e
     rw[e];simp only[BG,Int.reduceEq,↓reduceIte,ne_eq,abp];exact F _ _ _ _ [] _ _ _ [] _ _ _ nil2 nil2 (Se _ _) (Se _ _) aa3 aa3 h4
   · have h4:=mG (Gj n) n _ gn gu (uM (aa b).1 1:Int) (uM (aa b).1 10 !=0) e
     rw[e];simp only[BG,Int.reduceEq,↓reduceIte,ne_eq,abp];exact F _ _ _ _ [] _ _ _ [] _ _ _ nil2 nil2 (zi 1) (zi 2) aa3 aa3 h4
   · have h4:=mE (Gj n) n _ gn gu (uM (aa b).1 1:Int) (uM (aa b).1 10 !=0) e
     rw[e];simp only[BG,Int.reduceEq,↓reduceIte,ne_eq,abp];exact F _ _ _ _ [] _ _ _ [] _ _ _ nil2 nil2 in0 in0 aa3 aa3 h4
   · have h4:=mD (Gj n) n _ gn gu (uM (aa b).1 1:Int) (uM (aa b).1 10 !=0) e
     rw[e];simp only[BG,Int.reduceEq,↓reduceIte,ne_eq,abp];exact F _ _ _ _ [] _ _ _ [] _ _ _ nil2 nil2 (zi 1) (zi 2) aa3 aa3 h4
   · omega
