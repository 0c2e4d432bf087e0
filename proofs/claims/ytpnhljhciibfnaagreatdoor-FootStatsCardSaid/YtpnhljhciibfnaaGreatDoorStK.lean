import Derived.Test.YtpnhljhciibfnaaGreatDoorStI
set_option linter.unusedSimpArgs false
namespace Go.Proofs.YtpnhljhciibfnaaGreatDoor
set_option linter.unusedSectionVars false
open Go Go.Ev
set_option maxHeartbeats 4000000
def Aoc (d:Nat) (cs:List Cel) (A:List (Cel×V)):Prop:=∀ p∈A,p.1.d=d∧p.1 ∉ cs∧∃ x,p.2= .d x
section
variable {d:Nat} {cs:List Cel} {A:List (Cel×V)} (h:Aoc d cs A)
include h
theorem Aoc.aok:Aok d [] A:=fun p hp=>⟨(h p hp).1,by simp,(h p hp).2.2⟩
theorem lkC (c:Cel) (hk:c∈cs) (r:List (Cel×V)):lk (A++r) c=lk r c:=by
 induction A with
 |nil=>rfl
 | cons p A ih=>
  obtain⟨_,h1,_⟩:=h p aa3;obtain⟨c',v⟩:=p;rw[List.cons_append,lk,if_neg (fun e=>h1 (by rw[← e] at hk;exact hk))]
  exact ih fun q hq=>h q (by simp[hq])
theorem stC (c:Cel) (hk:c∈cs) (v:V) (r:List (Cel×V)):st (A++r) c v=A++st r c v:=by
 induction A with
 |nil=>rfl
 | cons p A ih=>
  obtain⟨_,h1,_⟩:=h p aa3;obtain⟨c',u⟩:=p;rw[List.cons_append,st,if_neg (fun e=>h1 (by rw[← e] at hk;exact hk)),ih fun q hq=>h q (by simp[hq])]
  rfl
end
def mR (A:List (Cel×V)) (ok:Bool):List (Cel×V):=A++[(⟨0,63,9⟩,.d (.bool (ok)))]
section
variable {A:List (Cel×V)} (hA:Aoc 0 [⟨0,63,9⟩] A) (fs:List Fld) (hl:lk A ⟨0,63,8⟩=some (.d (.sl (fs.map Fld.d)))) (hn:fs.length≤1000000) (hu:∀ f∈fs,f.u<18446744073709551616) (hb:∀ f∈fs,f.b.length≤4000) (hb':∀ f∈fs,f.b.length≤1000000)
include hA hl hn hu in
theorem bh3 (dp:Nat) (num:Nat) (ok:Bool):evL cfg Fx (dp+1) [.ref 0 63 0,.d (.int .i64 ((num:Int)))] (mR A ok)=some (FA (AA fs num 0),mR A ok):=by
 have h:=bgb fs num hn hu;have z0:=fun r=>lkA (r:=r) hl
 have z3:=ct hA.aok;have z4:=ew hA.aok (dp+1) (acs _);unfold mR;rw[e_dr (dp+1) _ _ rfl rfl];unfold FA at h ⊢;generalize AA fs num 0=o at *;simp(disch:=first|exact aa0|fail) only[go_sem,X_dr,nX,h,z0,z3,z4]
include hA hl hn hb' in
theorem bf7 (dp:Nat) (num:Nat) (ok:Bool):evL cfg Rm (dp+1) [.ref 0 63 0,.d (.int .i64 ((num:Int)))] (mR A ok)=some (Cf (AA fs num 2),mR A ok):=by
 have h:=fk fs num hn hb';have z0:=fun r=>lkA (r:=r) hl
 have z3:=ct hA.aok;have z4:=ew hA.aok (dp+1) (acs _);unfold mR;rw[e_dz (dp+1) _ _ rfl rfl];unfold Cf at h ⊢;generalize AA fs num 2=o at *;simp(disch:=first|exact aa0|fail) only[go_sem,X_dz,nW,h,z0,z3,z4]
def exD (sc:Nat):Option Fld→V
 |none=> .d (.tup [.int .i64 0,.bool false])
 |some f=> .d (.tup [.int .i64 (az f.b sc).1,.bool true])
def B6 (sc:Nat):Option Fld→Bool
 |none=>true
 |some f=>(az f.b sc).2==0
theorem iw {fs:List Fld} (num A0:Nat) {f:Fld} (h:AA fs num A0=some f):f∈fs:=by
 have:=List.mem_of_find?_eq_some h;simpa using this
include hA hl hn hb in
theorem apr (dp:Nat) (num sc:Nat) (hs:sc≤18) (hsc:lk A ⟨0,63,5⟩=some (.d (.int .i64 ((sc:Int))))) (ok:Bool):evL cfg HW (dp+1) [.ref 0 63 0,.d (.int .i64 ((num:Int)))] (mR A ok)=some (exD sc (AA fs num 2),mR A (ok&&B6 sc (AA fs num 2))):=by
 have h:=fk fs num hn (fun f hf=>abo (hb f hf) aa1)
 have z0:=fun r=>lkA (r:=r) hl
 have x0:=fun r=>lkA (r:=r) hsc
 have z1:=lkC hA ⟨0,63,9⟩ aa3;have z2:=stC hA ⟨0,63,9⟩ aa3;have z3:=ct hA.aok;have z4:=ew hA.aok (dp+1) (acs _);unfold mR;rw[e_bo (dp+1) _ _ rfl rfl];unfold Cf at h;cases ho:AA fs num 2 with
 | none=>
  rw[ho] at h;simp only[exD,B6,Bool.and_true];simp(disch:=first|exact aa0|fail) only[go_sem,oN,XO,h,z0,x0,z1,z2,z3,z4]
 | some f=>
  have hf:=hb f (iw num 2 ho);have hp:=v6 hf hs;rw[ho] at h;simp only[Option.getD_some,Option.isSome_some] at h;simp only[exD,B6];have be:(((az f.b sc).2:Int)==0)=((az f.b sc).2==0):=FK _ 0;generalize az f.b sc=q at *;cases ok with
  |true=>simp(disch:=first|exact aa0|fail) only[go_sem,oN,XO,h,hp,be,z0,x0,z1,z2,z3,z4]
  |false=>simp(disch:=first|exact aa0|fail) only[go_sem,oN,XO,h,hp,be,z0,x0,z1,z2,z3,z4]
def CN (o:Option Fld):Int:=IntKind.wrap .i64 ((o.getD Af).u:Int)
def ff (has:Bool) (o:Option Fld):Bool:=(o.isSome==has)&&decide ((o.getD Af).u≤4294967295)
include hA hl hn in
theorem bf8 (dp:Nat) (num:Nat) (has ok:Bool):evL cfg HU (dp+1) [.ref 0 63 0,.d (.int .i64 ((num:Int))),.d (.bool (has))] (mR A ok)=some (.d (.int .i64 (CN (AA fs num 0))),mR A (ok&&ff has (AA fs num 0))):=by
 have h:=b5 fs num hn;have z0:=fun r=>lkA (r:=r) hl
 have z1:=lkC hA ⟨0,63,9⟩ aa3;have z2:=stC hA ⟨0,63,9⟩ aa3;have z3:=ct hA.aok;have z4:=ew hA.aok (dp+1) (acs _);unfold mR ff CN;rw[e_ck (dp+1) _ _ rfl rfl];unfold Bh at h;have be:decide (((((AA fs num 0).getD Af).u:Nat):Int)≤4294967295)=decide (((AA fs num 0).getD Af).u≤4294967295):=by
  rw[ab0];simp only[aa9];omega
 generalize AA fs num 0=o at *;cases ok with
 |false=>simp(disch:=first|exact aa0|fail) only[go_sem,oM,XN,h,be,z0,z1,z2,z3,z4]
 | true=>
  rcases aa5 (o.isSome==has) with e|e
  · simp(disch:=first|exact aa0|fail) only[go_sem,oM,XN,h,be,e,z0,z1,z2,z3,z4]
  · simp(disch:=first|exact aa0|fail) only[go_sem,oM,XN,h,be,e,z0,z1,z2,z3,z4]
theorem ry (hA':Aoc 0 [⟨0,63,9⟩] A) (dp:Nat) (f:FuncId) (x1 x2:Int) (i1 i2 ok ok1 ok2:Bool)
  (h1:evL cfg f (dp+1+1) [.ref 0 63 0,.d (.int .i64 (1))] (mR A ok)=some (.d (.tup [.int .i64 x1,.bool i1]),mR A ok1)) (h2:evL cfg f (dp+1+1) [.ref 0 63 0,.d (.int .i64 (2))] (mR A ok1)=some (.d (.tup [.int .i64 x2,.bool i2]),mR A ok2)):
  evL cfg HS (dp+1) [.ref 0 63 0,.clo f [.ref 0 63 0] []] (mR A ok)=some (.d (.tup [.int .i64 x1,.int .i64 x2,.bool i1]),mR A (ok2&&(i1==i2))):=by
 have z1:=lkC hA' ⟨0,63,9⟩ aa3;have z2:=stC hA' ⟨0,63,9⟩ aa3;have z3:=ct hA'.aok;have z4:=ew hA'.aok (dp+1) (acs _);have z5:=Fa hA'.aok (dp+1) aa1;have z6:=Fg hA'.aok;unfold mR at h1 h2 ⊢;rw[e_cq (dp+1) _ _ rfl rfl];cases ok2 with
 |true=>simp(disch:=first|exact aa0|fail) only[go_sem,X_cq,aK,h1,h2,z1,z2,z3,z4,z5,z6,List.all_cons,List.all_nil]
 |false=>simp(disch:=first|exact aa0|fail) only[go_sem,X_cq,aK,h1,h2,z1,z2,z3,z4,z5,z6,List.all_cons,List.all_nil]
theorem zh (hA':Aoc 0 [⟨0,63,9⟩] A) (dp:Nat) (f:FuncId) (x1 x2:List UInt8) (i1 i2 ok ok1 ok2:Bool)
  (h1:evL cfg f (dp+1+1) [.ref 0 63 0,.d (.int .i64 (1))] (mR A ok)=some (.d (.tup [.sl (x1.map AM),.bool i1]),mR A ok1)) (h2:evL cfg f (dp+1+1) [.ref 0 63 0,.d (.int .i64 (2))] (mR A ok1)=some (.d (.tup [.sl (x2.map AM),.bool i2]),mR A ok2)):
  evL cfg Tg (dp+1) [.ref 0 63 0,.clo f [.ref 0 63 0] []] (mR A ok)=some (.d (.tup [.sl (x1.map AM),.sl (x2.map AM),.bool i1]),mR A (ok2&&(i1==i2))):=by
 have z1:=lkC hA' ⟨0,63,9⟩ aa3;have z2:=stC hA' ⟨0,63,9⟩ aa3;have z3:=ct hA'.aok;have z4:=ew hA'.aok (dp+1) (acs _);have z5:=Fa hA'.aok (dp+1) aa1;have z6:=Fg hA'.aok;unfold mR at h1 h2 ⊢;rw[e_ct (dp+1) _ _ rfl rfl];cases ok2 with
 |true=>simp(disch:=first|exact aa0|fail) only[go_sem,X_ct,aJ,h1,h2,z1,z2,z3,z4,z5,z6,List.all_cons,List.all_nil]
 |false=>simp(disch:=first|exact aa0|fail) only[go_sem,X_ct,aJ,h1,h2,z1,z2,z3,z4,z5,z6,List.all_cons,List.all_nil]
end
end Go.Proofs.YtpnhljhciibfnaaGreatDoor
namespace Go.Proofs.YtpnhljhciibfnaaGreatDoor
open Go Go.Ev
set_option maxHeartbeats 8000000
def va0:Va:= .mk false 0 0 [] []
def leaf (i n:Int) (b:List UInt8):Va:= .mk false i n b []
theorem r7 (i n:Int) (b:List UInt8):(leaf i n b).d= .agg [.bool false,.int .i64 i,.int .i64 n,txt b,.sl []]:=by rw[Va.EM];rfl
def FH (c:Int) (nl has:Bool) (i1 n1:Int) (b1:D) (i2 n2:Int) (b2:D) (AU:Bool) (sum:Int):List (Cel×V):=
 [(⟨0,12,0⟩,.d (.int .i64 (c))),(⟨0,12,1⟩,.d (.bool (nl))),(⟨0,12,2⟩,.d (.bool (has))),(⟨0,12,3⟩,.d (.bool (false))),(⟨0,12,4⟩,.d (.int .i64 (i1))),(⟨0,12,5⟩,.d (.int .i64 (n1))),(⟨0,12,6⟩,.d b1),(⟨0,12,7⟩,.d .AB),
  (⟨0,12,8⟩,.d (.bool (false))),(⟨0,12,9⟩,.d (.int .i64 (i2))),(⟨0,12,10⟩,.d (.int .i64 (n2))),(⟨0,12,11⟩,.d b2),(⟨0,12,12⟩,.d .AB),(⟨0,12,13⟩,.d (.bool (AU))),(⟨0,12,14⟩,.d (.int .i64 (sum)))]
def FI (n:Nd) (fs:List Fld):List (Cel×V):=[(⟨0,63,0⟩,.d (.int .i64 (n.kind))),(⟨0,63,1⟩,.d (.sl n.names)),(⟨0,63,2⟩,.d (.sl n.kids)),(⟨0,63,3⟩,.d (.int .i64 (n.len))),(⟨0,63,4⟩,.d (.int .i64 (n.prec))),(⟨0,63,5⟩,.d (.int .i64 ((n.scale:Int)))),(⟨0,63,6⟩,.d (.int .i64 (n.parent))),(⟨0,63,7⟩,.d (.int .i64 (n.deep))),(⟨0,63,8⟩,.d (.sl (fs.map Fld.d)))]
def zI (o:Option Fld):Int:=CG (o.getD Af).u
def xI (sc:Nat):Option Fld→Int
 |none=>0
 |some f=>(az f.b sc).1
theorem Wm (sc:Nat) (o:Option Fld):exD sc o= .d (.tup [.int .i64 (xI sc o),.bool o.isSome]):=by cases o<;>rfl
section
variable {A:List (Cel×V)} (hA:Aok 0 [12,63] A) (n:Nd) (fs:List Fld) (hs:n.scale≤18) (hn:fs.length≤1000000) (hu:∀ f∈fs,f.u<18446744073709551616) (hb:∀ f∈fs,f.b.length≤4000) (hb':∀ f∈fs,f.b.length≤1000000)
variable (c:Int) (nl has:Bool) (i1 n1:Int) (b1:D) (i2 n2:Int) (b2:D) (AU:Bool) (sum:Int)
include hA
theorem Gk:Aoc 0 [⟨0,63,9⟩] (A++(FH c nl has i1 n1 b1 i2 n2 b2 AU sum++FI n fs)):=by
 intro p hp;rcases ab1.1 hp with hp|hp
 · obtain⟨h1,h2,h3⟩:=hA p hp
   refine⟨h1,fun e=>h2 ?_,h3⟩
   rw[ab9] at e;rw[e];simp
 · simp only[FH,FI,List.cons_append,List.nil_append,abr,ach,or_false] at hp
   rcases hp with rfl|rfl|rfl|rfl|rfl|rfl|rfl|rfl|rfl|rfl|rfl|rfl|rfl|rfl|rfl|rfl|rfl|rfl|rfl|rfl|rfl|rfl|rfl|rfl<;>exact⟨rfl,by simp,_,rfl⟩
theorem Sk:lk (A++(FH c nl has i1 n1 b1 i2 n2 b2 AU sum++FI n fs)) ⟨0,63,8⟩=some (.d (.sl (fs.map Fld.d))):=by rw[lkN hA 63 8 aa3];rfl
theorem lk_m5:lk (A++(FH c nl has i1 n1 b1 i2 n2 b2 AU sum++FI n fs)) ⟨0,63,5⟩=some (.d (.int .i64 ((n.scale:Int)))):=by rw[lkN hA 63 5 aa3];rfl
abbrev mS (A:List (Cel×V)) (n:Nd) (fs:List Fld) (c:Int) (nl has:Bool) (i1 n1:Int) (b1:D) (i2 n2:Int) (b2:D) (AU:Bool) (sum:Int) (ok:Bool):List (Cel×V):=mR (A++(FH c nl has i1 n1 b1 i2 n2 b2 AU sum++FI n fs)) ok
include hn hu in
theorem H9 (dp num:Nat) (ok:Bool):evL cfg Fx (dp+1) [.ref 0 63 0,.d (.int .i64 ((num:Int)))] (mS A n fs c nl has i1 n1 b1 i2 n2 b2 AU sum ok)=some (FA (AA fs num 0),mS A n fs c nl has i1 n1 b1 i2 n2 b2 AU sum ok):=
 bh3 (Gk hA n fs c nl has i1 n1 b1 i2 n2 b2 AU sum) fs (Sk hA n fs c nl has i1 n1 b1 i2 n2 b2 AU sum) hn hu dp num ok
include hn hb' in
theorem WA (dp num:Nat) (ok:Bool):evL cfg Rm (dp+1) [.ref 0 63 0,.d (.int .i64 ((num:Int)))] (mS A n fs c nl has i1 n1 b1 i2 n2 b2 AU sum ok)=some (Cf (AA fs num 2),mS A n fs c nl has i1 n1 b1 i2 n2 b2 AU sum ok):=
 bf7 (Gk hA n fs c nl has i1 n1 b1 i2 n2 b2 AU sum) fs (Sk hA n fs c nl has i1 n1 b1 i2 n2 b2 AU sum) hn hb' dp num ok
include hn hb hs in
theorem ava (dp num:Nat) (ok:Bool):evL cfg HW (dp+1) [.ref 0 63 0,.d (.int .i64 ((num:Int)))] (mS A n fs c nl has i1 n1 b1 i2 n2 b2 AU sum ok)=some (exD n.scale (AA fs num 2),mS A n fs c nl has i1 n1 b1 i2 n2 b2 AU sum (ok&&B6 n.scale (AA fs num 2))):=
 apr (Gk hA n fs c nl has i1 n1 b1 i2 n2 b2 AU sum) fs (Sk hA n fs c nl has i1 n1 b1 i2 n2 b2 AU sum) hn hb dp num n.scale hs (lk_m5 hA n fs c nl has i1 n1 b1 i2 n2 b2 AU sum) ok
include hn in
theorem WB (dp num:Nat) (hs2 ok:Bool):evL cfg HU (dp+1) [.ref 0 63 0,.d (.int .i64 ((num:Int))),.d (.bool (hs2))] (mS A n fs c nl has i1 n1 b1 i2 n2 b2 AU sum ok)=some (.d (.int .i64 (CN (AA fs num 0))),mS A n fs c nl has i1 n1 b1 i2 n2 b2 AU sum (ok&&ff hs2 (AA fs num 0))):=
 bf8 (Gk hA n fs c nl has i1 n1 b1 i2 n2 b2 AU sum) fs (Sk hA n fs c nl has i1 n1 b1 i2 n2 b2 AU sum) hn dp num hs2 ok
include hn hu in
theorem au9 (ok:Bool):evL cfg HS 2 [.ref 0 63 0,.clo Fx [.ref 0 63 0] []] (mS A n fs c nl has i1 n1 b1 i2 n2 b2 AU sum ok)=
  some (.d (.tup [.int .i64 (zI (AA fs 1 0)),.int .i64 (zI (AA fs 2 0)),.bool (AA fs 1 0).isSome]),mS A n fs c nl has i1 n1 b1 i2 n2 b2 AU sum (ok&&((AA fs 1 0).isSome==(AA fs 2 0).isSome))):=
 ry (Gk hA n fs c nl has i1 n1 b1 i2 n2 b2 AU sum) 1 Fx _ _ _ _ ok ok ok (H9 hA n fs hn hu c nl has i1 n1 b1 i2 n2 b2 AU sum 2 1 ok) (H9 hA n fs hn hu c nl has i1 n1 b1 i2 n2 b2 AU sum 2 2 ok)
include hn hb' in
theorem Yr (ok:Bool):evL cfg Tg 2 [.ref 0 63 0,.clo Rm [.ref 0 63 0] []] (mS A n fs c nl has i1 n1 b1 i2 n2 b2 AU sum ok)=
  some (.d (.tup [.sl (((AA fs 1 2).getD Af).b.map AM),.sl (((AA fs 2 2).getD Af).b.map AM),.bool (AA fs 1 2).isSome]),mS A n fs c nl has i1 n1 b1 i2 n2 b2 AU sum (ok&&((AA fs 1 2).isSome==(AA fs 2 2).isSome))):=
 zh (Gk hA n fs c nl has i1 n1 b1 i2 n2 b2 AU sum) 1 Rm _ _ _ _ ok ok ok (WA hA n fs hn hb' c nl has i1 n1 b1 i2 n2 b2 AU sum 2 1 ok) (WA hA n fs hn hb' c nl has i1 n1 b1 i2 n2 b2 AU sum 2 2 ok)
include hn hb hs in
theorem Yq (ok:Bool):evL cfg HS 2 [.ref 0 63 0,.clo HW [.ref 0 63 0] []] (mS A n fs c nl has i1 n1 b1 i2 n2 b2 AU sum ok)=
  some (.d (.tup [.int .i64 (xI n.scale (AA fs 1 2)),.int .i64 (xI n.scale (AA fs 2 2)),.bool (AA fs 1 2).isSome]),mS A n fs c nl has i1 n1 b1 i2 n2 b2 AU sum (ok&&B6 n.scale (AA fs 1 2)&&B6 n.scale (AA fs 2 2)&&((AA fs 1 2).isSome==(AA fs 2 2).isSome))):=by
 have h1:=ava hA n fs hs hn hb c nl has i1 n1 b1 i2 n2 b2 AU sum 2 1 ok;have h2:=ava hA n fs hs hn hb c nl has i1 n1 b1 i2 n2 b2 AU sum 2 2 (ok&&B6 n.scale (AA fs 1 2));rw[Wm] at h1;rw[Wm] at h2;exact ry (Gk hA n fs c nl has i1 n1 b1 i2 n2 b2 AU sum) 1 HW _ _ _ _ ok _ _ h1 h2
end
