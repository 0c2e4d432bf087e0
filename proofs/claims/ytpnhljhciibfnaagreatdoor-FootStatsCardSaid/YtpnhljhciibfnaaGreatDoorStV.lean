import Derived.Test.YtpnhljhciibfnaaGreatDoorDeE
set_option linter.unusedSimpArgs false
set_option linter.unusedSectionVars false
namespace Go.Proofs.YtpnhljhciibfnaaGreatDoor
open Go Go.Ev
set_option maxHeartbeats 4000000
theorem oq {fs fs':List Fld} (h:fs.map Fld.core=fs'.map Fld.core) (n w:Nat):(AA fs n w).map Fld.core=(AA fs' n w).map Fld.core:=by
 have key:∀ fs:List Fld,(AA fs n w).map Fld.core=(fs.map Fld.core).reverse.find? fun c=>c.1==n&&c.2.1==w:=fun fs=>by
  unfold AA;rw[← List.map_reverse,List.find?_map];rfl
 rw[key,key,h]
theorem Vt {o o':Option Fld} (h:o.map Fld.core=o'.map Fld.core):o.isSome=o'.isSome∧(o.getD Af).u=(o'.getD Af).u∧(o.getD Af).b=(o'.getD Af).b∧zI o=zI o'∧(∀ sc,xI sc o=xI sc o')∧(∀ sc,B6 sc o=B6 sc o')∧CN o=CN o'∧∀ b,ff b o=ff b o':=by
 cases o with
 | none=>cases o' with
  |none=>exact⟨rfl,rfl,rfl,rfl,fun _=>rfl,fun _=>rfl,rfl,fun _=>rfl⟩
  |some f=>simp at h
 | some f=>cases o' with
  |none=>simp at h
  | some g=>
   simp only[Option.map_some,Option.some.injEq,Fld.core,Prod.mk.injEq] at h;obtain⟨_,_,h3,h4⟩:=h;refine⟨rfl,h3,h4,by simp only[zI,Option.getD_some,h3],fun sc=>by simp only[xI,h4],fun sc=>by simp only[B6,h4],by simp only[CN,Option.getD_some,h3],fun b=>by simp only[ff,Option.getD_some,Option.isSome_some,h3]⟩
theorem kd (num:Nat):∀ (fs fs':List Fld) (acc:List Nat),fs.map Fld.core=fs'.map Fld.core→ba num fs acc=ba num fs' acc
 | [],[],_,_=>rfl
 | [],_::_,_,h=>by simp at h
 |_::_,[],_,h=>by simp at h
 | f::r,g::r',acc,h=>by
  rw[List.map_cons,List.map_cons] at h;injection h with h1 h2;simp only[Fld.core,Prod.mk.injEq] at h1;obtain⟨e1,e2,e3,e4⟩:=h1;rw[ba,ba,e1,e2,e3,e4];rw[kd num r r' _ h2,kd num r r' _ h2,kd num r r' _ h2]
theorem avm {fs fs':List Fld} (h:fs.map Fld.core=fs'.map Fld.core) (k:Int) (sc:Nat):BG k sc fs=BG k sc fs':=by
 have c:=fun n w=>Vt (oq h n w)
 unfold BG;rw[kd 1 fs fs' [] h];simp only[(c 1 0).1,(c 2 0).1,(c 3 0).1,(c 1 2).1,(c 2 2).1,(c 3 2).1,(c 1 0).2.2.2.1,(c 2 0).2.2.2.1,(c 3 0).2.2.2.1,(c 1 2).2.2.1,(c 2 2).2.2.1,(c 1 2).2.2.2.2.1,(c 2 2).2.2.2.2.1,(c 3 2).2.2.2.2.1,(c 1 2).2.2.2.2.2.1,(c 2 2).2.2.2.2.2.1,(c 3 2).2.2.2.2.2.1,(c 3 0).2.2.2.2.2.2.1,(c 4 0).2.2.2.2.2.2.1,(c 3 0).2.2.2.2.2.2.2,(c 4 0).2.2.2.2.2.2.2]
def FY (xs:List Put):List Fld:=xs.map fun x=>x.fld 0
theorem p5 (xs:List Put):(FY xs).map Fld.core=xs.map Put.core:=by unfold FY;rw[List.map_map];rfl
theorem Vq {u:Nat} (h:u<18446744073709551616):Bi (Ai 10 u) ((Ai 10 u).length+1) 0 []=([u],0):=by
 have hv:=lm h [];rw[List.append_nil] at hv;have hp:=x8 u;obtain⟨m,hm⟩:∃ m,(Ai 10 u).length=m+1:=⟨(Ai 10 u).length-1,by omega⟩
 rw[Bi,if_pos aa1,List.drop_zero,hv];simp only[if_true];rw[hm,Bi,if_neg aa1];rfl
structure cC (t:Ty) (s:Sv):Prop where
 ok:Ip s
 no:s.has=false→s.mn=va0∧s.mx=va0
 Hx:s.AU=false→s.sum=0
 k2:AL t.kind=2→s.has=true→s.mn=leaf s.mn.i 0 []∧s.mx=leaf s.mx.i 0 []
 k4:AL t.kind=4→s.has=true→s.mn=leaf 0 0 s.mn.b∧s.mx=leaf 0 0 s.mx.b
 k5:AL t.kind=5→s.has=false∧(s.AU=true→0≤s.sum∧s.sum≤262144)
 k6:AL t.kind=6→s.has=true→s.mn=leaf s.mn.i 0 []∧s.mx=leaf s.mx.i 0 []
 k7:AL t.kind=7→s.AU=false∧(s.has=true→s.mn=leaf s.mn.i 0 []∧s.mx=leaf s.mx.i 0 [])
 k8:AL t.kind=8→s.has=false
 k9:AL t.kind=9→s.AU=false∧(s.has=true→s.mn=leaf s.mn.i s.mn.n []∧s.mx=leaf s.mx.i s.mx.n []∧(0≤s.mn.n∧s.mn.n≤1000000000)∧0≤s.mx.n∧s.mx.n≤1000000000)
 k0:AL t.kind=0→s.has=false∧s.AU=false
 chk:s.has=true→Gi (bare t) s.mn=false∧Gi (bare t) s.mx=false
theorem Hi (k:Int) (sc:Nat) (s:Sv) (h:Ip s) (h9:k=9→s.has=true→s.mn.n≤1000000000∧s.mx.n≤1000000000):∀ x∈Ah k sc s,x.ok:=by
 have z1:=v7 h.i1;have z2:=v7 h.i2;have z3:=v7 h.su;unfold Ah A7 CJ;cases hh:s.has<;>cases hs:s.AU<;>(repeat' split)<;>(intro x hx;simp only[ab1,abr,ach,or_false,false_or,List.append_nil,List.nil_append,aa8,if_false,if_true] at hx)<;>(try(cases hx;done))
 all_goals (try(rcases hx with(rfl|rfl)|rfl))
 all_goals (try(rcases hx with rfl|rfl|rfl|rfl))
 all_goals (try(rcases hx with rfl|rfl))
 all_goals (try subst hx)
 all_goals (simp only[Put.ok];try omega)
 all_goals first|contradiction| (have q:=h9 (by assumption) hh;omega)
theorem bst (t:Ty) (sc:Nat) (hs:sc≤18) (s:Sv) (h:cC t s) (hk:0<AL t.kind):(BG (AL t.kind) sc (FY (Ah (AL t.kind) sc s))).err=0∧(BG (AL t.kind) sc (FY (Ah (AL t.kind) sc s))).ok=true∧
   (BG (AL t.kind) sc (FY (Ah (AL t.kind) sc s))).sv s.cnt s.null=s:=by
 have hc:=iv t.kind;have i1:=h.ok.i1;have i2:=h.ok.i2;have i3:=h.ok.su;have hno:=h.no;have hns:=h.Hx;rcases hc with e|e|e|e|e|e|e|e
 · have h2:=h.k2 e
   rw[e];obtain⟨cnt,null,has,mn,mx,AU,sum⟩:=s;dsimp only at *;cases has<;>cases AU
   · obtain⟨rfl,rfl⟩:=hno rfl
     obtain rfl:=hns rfl;refine⟨rfl,rfl,?_⟩;show Sv.mk cnt null false (leaf (zI none) 0 []) (leaf (zI none) 0 []) false (zI none)=_;rfl
   · obtain⟨rfl,rfl⟩:=hno rfl
     refine⟨rfl,rfl,?_⟩;show Sv.mk cnt null false (leaf (zI none) 0 []) (leaf (zI none) 0 []) true (CG (As sum))=_;rw[fh];rfl
   · obtain⟨q1,q2⟩:=h2 rfl
     obtain rfl:=hns rfl;refine⟨rfl,rfl,?_⟩;show Sv.mk cnt null true (leaf (CG (As mn.i)) 0 []) (leaf (CG (As mx.i)) 0 []) false (zI none)=_;rw[fh,fh,← q1,← q2];rfl
   · obtain⟨q1,q2⟩:=h2 rfl
     refine⟨rfl,rfl,?_⟩;show Sv.mk cnt null true (leaf (CG (As mn.i)) 0 []) (leaf (CG (As mx.i)) 0 []) true (CG (As sum))=_;rw[fh,fh,fh,← q1,← q2]
 · have h2:=h.k4 e
   rw[e];obtain⟨cnt,null,has,mn,mx,AU,sum⟩:=s;dsimp only at *;cases has<;>cases AU
   · obtain⟨rfl,rfl⟩:=hno rfl
     obtain rfl:=hns rfl;refine⟨rfl,rfl,?_⟩;show Sv.mk cnt null false (leaf 0 0 []) (leaf 0 0 []) false (zI none)=_;rfl
   · obtain⟨rfl,rfl⟩:=hno rfl
     refine⟨rfl,rfl,?_⟩;show Sv.mk cnt null false (leaf 0 0 []) (leaf 0 0 []) true (CG (As sum))=_;rw[fh];rfl
   · obtain⟨q1,q2⟩:=h2 rfl
     obtain rfl:=hns rfl;refine⟨rfl,rfl,?_⟩;show Sv.mk cnt null true (leaf 0 0 mn.b) (leaf 0 0 mx.b) false (zI none)=_;rw[← q1,← q2];rfl
   · obtain⟨q1,q2⟩:=h2 rfl
     refine⟨rfl,rfl,?_⟩;show Sv.mk cnt null true (leaf 0 0 mn.b) (leaf 0 0 mx.b) true (CG (As sum))=_;rw[fh,← q1,← q2]
 · obtain⟨h2,h3⟩:=h.k5 e
   rw[e];obtain⟨cnt,null,has,mn,mx,AU,sum⟩:=s;dsimp only at *;subst h2;obtain⟨rfl,rfl⟩:=hno rfl;cases AU
   · obtain rfl:=hns rfl
     exact⟨rfl,rfl,rfl⟩
   · obtain⟨n1,n2⟩:=h3 rfl
     have hp:=Vq (u:=sum.toNat) aa1;have hu:ba 1 (FY (Ah 5 sc ⟨cnt,null,false,va0,va0,true,sum⟩)) []=([sum.toNat],0):=by
       show ba 1 [⟨1,2,0,Ai 10 sum.toNat,0⟩] []=_;rw[ba];simp only[beq_self_eq_true,if_true,hp];rfl
     have hf:BG 5 sc (FY (Ah 5 sc ⟨cnt,null,false,va0,va0,true,sum⟩))=⟨false,0,0,[],0,0,[],true,IntKind.wrap .i64 (sum.toNat:Int),decide (sum.toNat≤262144),0⟩:=by
       unfold BG;rw[hu];rfl
     rw[hf];refine⟨rfl,by simp;omega,?_⟩
     show Sv.mk cnt null false va0 va0 true (IntKind.wrap .i64 (sum.toNat:Int))=_;rw[au aa1 aa1,abs n1]
 · have h2:=h.k6 e
   rw[e];obtain⟨cnt,null,has,mn,mx,AU,sum⟩:=s;dsimp only at *;have p1:=qr i1 hs;have p2:=qr i2 hs;have p3:=qr i3 hs;cases has<;>cases AU
   · obtain⟨rfl,rfl⟩:=hno rfl
     obtain rfl:=hns rfl;exact⟨rfl,rfl,rfl⟩
   · obtain⟨rfl,rfl⟩:=hno rfl
     refine⟨rfl,?_,?_⟩
     · show(true&&true&&(false==false)&&((az (Al sum sc) sc).2==0))=true
       rw[p3];rfl
     · show Sv.mk cnt null false va0 va0 true (az (Al sum sc) sc).1=_
       rw[p3]
   · obtain⟨q1,q2⟩:=h2 rfl
     obtain rfl:=hns rfl;refine⟨rfl,?_,?_⟩
     · show(((az (Al mn.i sc) sc).2==0)&&((az (Al mx.i sc) sc).2==0)&&(true==true)&&true)=true
       rw[p1,p2];rfl
     · show Sv.mk cnt null true (leaf (az (Al mn.i sc) sc).1 0 []) (leaf (az (Al mx.i sc) sc).1 0 []) false 0=_
       rw[p1,p2,← q1,← q2]
   · obtain⟨q1,q2⟩:=h2 rfl
     refine⟨rfl,?_,?_⟩
     · show(((az (Al mn.i sc) sc).2==0)&&((az (Al mx.i sc) sc).2==0)&&(true==true)&&((az (Al sum sc) sc).2==0))=true
       rw[p1,p2,p3];rfl
     · show Sv.mk cnt null true (leaf (az (Al mn.i sc) sc).1 0 []) (leaf (az (Al mx.i sc) sc).1 0 []) true (az (Al sum sc) sc).1=_
       rw[p1,p2,p3,← q1,← q2]
 · obtain⟨h1,h2⟩:=h.k7 e
   rw[e];obtain⟨cnt,null,has,mn,mx,AU,sum⟩:=s;dsimp only at *;subst h1;obtain rfl:=hns rfl;cases has
   · obtain⟨rfl,rfl⟩:=hno rfl
     refine⟨rfl,rfl,?_⟩;show Sv.mk cnt null false (leaf (zI none) 0 []) (leaf (zI none) 0 []) false 0=_;rfl
   · obtain⟨q1,q2⟩:=h2 rfl
     refine⟨rfl,rfl,?_⟩;show Sv.mk cnt null true (leaf (CG (As mn.i)) 0 []) (leaf (CG (As mx.i)) 0 []) false 0=_;rw[fh,fh,← q1,← q2]
 · have h2:=h.k8 e
   rw[e];obtain⟨cnt,null,has,mn,mx,AU,sum⟩:=s;dsimp only at *;subst h2;obtain⟨rfl,rfl⟩:=hno rfl;cases AU
   · obtain rfl:=hns rfl
     refine⟨rfl,rfl,?_⟩;show Sv.mk cnt null false (leaf 0 0 []) (leaf 0 0 []) false (zI none)=_;rfl
   · refine⟨rfl,rfl,?_⟩
     show Sv.mk cnt null false va0 va0 true (CG (As sum))=_;rw[fh]
 · obtain⟨h1,h2⟩:=h.k9 e
   rw[e];obtain⟨cnt,null,has,mn,mx,AU,sum⟩:=s;dsimp only at *;subst h1;obtain rfl:=hns rfl;cases has
   · obtain⟨rfl,rfl⟩:=hno rfl
     refine⟨rfl,rfl,?_⟩;show Sv.mk cnt null false (leaf (zI none) (CN none) []) (leaf (zI none) (CN none) []) false 0=_;rfl
   · obtain⟨q1,q2,⟨n1,n2⟩,n3,n4⟩:=h2 rfl
     refine⟨rfl,?_,?_⟩
     · show((true==true)&&((true==true)&&decide (mn.n.toNat≤4294967295))&&((true==true)&&decide (mx.n.toNat≤4294967295)))=true
       simp;omega
     · show Sv.mk cnt null true (leaf (CG (As mn.i)) (IntKind.wrap .i64 (mn.n.toNat:Int)) []) (leaf (CG (As mx.i)) (IntKind.wrap .i64 (mx.n.toNat:Int)) []) false 0=_
       rw[fh,fh,au aa1 aa1,au aa1 aa1,abs n1,abs n3,← q1,← q2]
 · omega
theorem Ug (xs:List Put) {fs:List Fld} (h:fs.map Fld.core=xs.map Put.core) (k:Nat):uM fs k=uM (FY xs) k:=by
 rw[bg8,bg8,h,p5]
theorem bh2 (t:Ty) (sc:Nat) (hs:sc≤18) (s:Sv) (h:cC t s):rdM (bare t) sc (Ae (Bc (AL t.kind) sc s))=(s,0):=by
 have hk:=iv t.kind;obtain⟨c1,c2⟩:=h.ok.cnt;have hbl:=qd (AL t.kind) sc s h.ok hs;have hbo:=Hi (AL t.kind) sc s h.ok (fun e hh=>by have:=(h.k9 e).2 hh;omega)
 have hsl:(Ae (Bc (AL t.kind) sc s)).length≤24100:=by
   rw[tj];have u1:=(bc 1 s.cnt.toNat).2;have b1:=(cr (AL t.kind).toNat (Ae (Ah (AL t.kind) sc s))).2;have u2:=fun m=>(bc 10 m).2
   split
   · rw[abk,abk]
     have:=u2 (if s.null=true then 1 else 0)
     omega
   · rw[abk]
     have:=u2 (if s.null=true then 1 else 0)
     omega
 obtain⟨fs,g1,g2⟩:=qt (Bc (AL t.kind) sc s) (fun x hx=>by
   unfold Bc at hx;simp only[List.cons_append,abr,ab1,ach,or_false] at hx;rcases hx with rfl|hx|rfl
   · simp only[Put.ok];omega
   · split at hx
     · rw[ab9] at hx
       subst hx;rename_i c;simp only[abe,aa9] at c;simp only[Put.ok];omega
     · cases hx
   · simp only[Put.ok];split<;>omega) aa1 (by unfold Bc;split<;>simp)
 have hu1:uM fs 1=s.cnt.toNat:=by
   rw[Ug _ g2];unfold Bc;split<;>simp[uM,AA,FY,Put.fld,isF]
 have hu10:uM fs 10=if s.null=true then 1 else 0:=by
   rw[Ug _ g2];unfold Bc;split<;>simp[uM,AA,FY,Put.fld,isF]
 have hnl:(uM fs 10 !=0)=s.null:=by rw[hu10];cases s.null<;>rfl
 unfold rdM;rw[show AL (bare t).kind=AL t.kind from rfl,g1]
 dsimp only;rw[if_neg aa3,hu1,if_neg aa1,hnl,abs c1];by_cases c:(decide (AL t.kind>0)&&(s.has||s.AU))=true
 · simp only[abe,aa9] at c
   obtain⟨kp,hp⟩:=c
   have hl:((AA fs (AL t.kind).toNat 2).map Fld.core)=some (((AL t.kind).toNat,2,0,Ae (Ah (AL t.kind) sc s))):=by
     have e1:fs.map Fld.core=(FY (Bc (AL t.kind) sc s)).map Fld.core:=by rw[g2,p5]
     rw[oq e1];unfold Bc;rw[if_pos (by simp[kp,hp])]
     show Option.map Fld.core (AA [⟨1,0,s.cnt.toNat,[],0⟩,⟨(AL t.kind).toNat,2,0,Ae (Ah (AL t.kind) sc s),0⟩,⟨10,0,if s.null=true then 1 else 0,[],0⟩] (AL t.kind).toNat 2)=_
     unfold AA;simp[isF,Fld.core]
   cases hf:AA fs (AL t.kind).toNat 2 with
   |none=>rw[hf] at hl;simp at hl
   | some f=>
     rw[hf] at hl;simp only[Option.map_some,Option.some.injEq,Fld.core,Prod.mk.injEq] at hl;obtain⟨_,_,_,hfb⟩:=hl;have hpf:Cg (AL t.kind) fs=some f:=by unfold Cg;rw[if_neg aa1,hf]
     rw[hpf];dsimp only;rw[hfb];obtain⟨qs,r1,r2⟩:=qt (Ah (AL t.kind) sc s) hbo aa1 aa1;rw[r1];dsimp only;rw[if_neg aa3];have hfill:=avm (r2.trans (p5 _).symm) (AL t.kind) sc;rw[hfill];obtain⟨q1,q2,q3⟩:=bst t sc hs s h kp;rw[q1,if_neg aa3,q2,q3];unfold FC;have hc:(!true||(s.has&&(Gi (bare t) s.mn||Gi (bare t) s.mx)))=false:=by
       cases hh:s.has with
       |false=>rfl
       | true=>
        obtain⟨b1,b2⟩:=h.chk hh;rw[b1,b2];rfl
     rw[if_neg (by rw[hc];simp)]
     have hz:=h.Hx;obtain⟨cnt,null,has,mn,mx,AU,sum⟩:=s;cases AU with
     |true=>rfl
     | false=>
       have:sum=0:=hz rfl;subst this;rfl
 ·
   have hn:Cg (AL t.kind) fs=none:=by
     unfold Cg;split
     · rfl
     · have e1:fs.map Fld.core=(FY (Bc (AL t.kind) sc s)).map Fld.core:=by rw[g2,p5]
       have hl:=oq e1 (AL t.kind).toNat 2;have:AA (FY (Bc (AL t.kind) sc s)) (AL t.kind).toNat 2=none:=by
        unfold Bc;rw[if_neg c];show AA [⟨1,0,s.cnt.toNat,[],0⟩,⟨10,0,if s.null=true then 1 else 0,[],0⟩] (AL t.kind).toNat 2=_
        unfold AA;simp[isF]
       rw[this] at hl;cases hf:AA fs (AL t.kind).toNat 2 with
       |none=>rfl
       |some f=>rw[hf] at hl;simp at hl
   rw[hn];have hz:s.has=false∧s.AU=false:=by
     by_cases k0:AL t.kind=0
     · exact h.k0 k0
     · have:0<AL t.kind:=aa1
       simpa[this] using c
   obtain⟨m1,m2⟩:=h.no hz.1;have m3:=h.Hx hz.2;obtain⟨cnt,null,has,mn,mx,AU,sum⟩:=s;dsimp only at hz m1 m2 m3;rw[hz.1,hz.2,m1,m2,m3]
