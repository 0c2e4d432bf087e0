import Derived.Test.YtlcnfnjdelmkdaaGreatDoorStI
namespace Go.Proofs.YtlcnfnjdelmkdaaGreatDoor
open Go Go.Ev
set_option maxHeartbeats 4000000
def Aoc (d:Nat) (cs:List Cel) (A:List (Cel×V)):Prop:=∀ p∈A,p.1.d=d∧p.1 ∉ cs∧∃ x,p.2= .d x
section
variable {d:Nat} {cs:List Cel} {A:List (Cel×V)} (h:Aoc d cs A)
include h
theorem Aoc.aok:Aok d [] A:=fun p hp=>⟨(h p hp).1,by simp,(h p hp).2.2⟩
theorem lkC (c:Cel) (hk:c∈cs) (r:List (Cel×V)):lk (A++r) c=lk r c:=by
 induction A with
 |nil=>rfl
 | cons p A ih=>
  obtain⟨_,h1,_⟩:=h p zb;obtain⟨c',v⟩:=p;rw[List.cons_append,lk,if_neg (fun e=>h1 (by rw[← e] at hk;exact hk))]
  exact ih fun q hq=>h q (by simp[hq])
theorem stC (c:Cel) (hk:c∈cs) (v:V) (r:List (Cel×V)):st (A++r) c v=A++st r c v:=by
 induction A with
 |nil=>rfl
 | cons p A ih=>
  obtain⟨_,h1,_⟩:=h p zb;obtain⟨c',u⟩:=p;rw[List.cons_append,st,if_neg (fun e=>h1 (by rw[← e] at hk;exact hk)),ih fun q hq=>h q (by simp[hq])]
  rfl
end
def mR (A:List (Cel×V)) (ok:Bool):List (Cel×V):=A++[(⟨0,63,9⟩,.d (.bool (ok)))]
section
variable {A:List (Cel×V)} (hA:Aoc 0 [⟨0,63,9⟩] A) (fs:List Fld) (hl:lk A ⟨0,63,8⟩=some (.d (.sl (fs.map Fld.d)))) (hn:fs.length≤1000000) (hu:∀ f∈fs,f.u<18446744073709551616) (hb:∀ f∈fs,f.b.length≤4000) (hb':∀ f∈fs,f.b.length≤1000000)
include hA hl hn hu in
theorem bh0 (dp:Nat) (num:Nat) (ok:Bool):evL cfg n_de (dp+1) [.ref 0 63 0,.d (.int .i64 ((num:Int)))] (mR A ok)=some (intD (lastM fs num 0),mR A ok):=by
 have h:=bfw fs num hn hu;have z0:=fun r=>lkA (r:=r) hl
 have z3:=ed hA.aok;have z4:=jk hA.aok (dp+1) (Nat.zero_lt_succ _);unfold mR;rw[e_de (dp+1) _ _ rfl rfl];unfold intD at h ⊢;generalize lastM fs num 0=o at *;simp(disch:=first|exact y7|fail) only[go_sem,X_de,c_de,h,z0,z3,z4]
include hA hl hn hb' in
theorem bft (dp:Nat) (num:Nat) (ok:Bool):evL cfg n_dl (dp+1) [.ref 0 63 0,.d (.int .i64 ((num:Int)))] (mR A ok)=some (textD (lastM fs num 2),mR A ok):=by
 have h:=di fs num hn hb';have z0:=fun r=>lkA (r:=r) hl
 have z3:=ed hA.aok;have z4:=jk hA.aok (dp+1) (Nat.zero_lt_succ _);unfold mR;rw[e_dl (dp+1) _ _ rfl rfl];unfold textD at h ⊢;generalize lastM fs num 2=o at *;simp(disch:=first|exact y7|fail) only[go_sem,X_dl,c_dl,h,z0,z3,z4]
def exD (sc:Nat):Option Fld→V
 |none=> .d (.tup [.int .i64 0,.bool false])
 |some f=> .d (.tup [.int .i64 (b6 f.b sc).1,.bool true])
def exOk (sc:Nat):Option Fld→Bool
 |none=>true
 |some f=>(b6 f.b sc).2==0
theorem fa {fs:List Fld} (num wire:Nat) {f:Fld} (h:lastM fs num wire=some f):f∈fs:=by
 have:=List.mem_of_find?_eq_some h;simpa using this
include hA hl hn hb in
theorem aol (dp:Nat) (num sc:Nat) (hs:sc≤18) (hsc:lk A ⟨0,63,5⟩=some (.d (.int .i64 ((sc:Int))))) (ok:Bool):evL cfg n_bm (dp+1) [.ref 0 63 0,.d (.int .i64 ((num:Int)))] (mR A ok)=some (exD sc (lastM fs num 2),mR A (ok&&exOk sc (lastM fs num 2))):=by
 have h:=di fs num hn (fun f hf=>aai (hb f hf) y8)
 have z0:=fun r=>lkA (r:=r) hl
 have x0:=fun r=>lkA (r:=r) hsc
 have z1:=lkC hA ⟨0,63,9⟩ zb;have z2:=stC hA ⟨0,63,9⟩ zb;have z3:=ed hA.aok;have z4:=jk hA.aok (dp+1) (Nat.zero_lt_succ _);unfold mR;rw[e_bm (dp+1) _ _ rfl rfl];unfold textD at h;cases ho:lastM fs num 2 with
 | none=>
  rw[ho] at h;simp only[exD,exOk,Bool.and_true];simp(disch:=first|exact y7|fail) only[go_sem,X_bm,c_bm,h,z0,x0,z1,z2,z3,z4]
 | some f=>
  have hf:=hb f (fa num 2 ho);have hp:=tv hf hs;rw[ho] at h;simp only[Option.getD_some,Option.isSome_some] at h;simp only[exD,exOk];have be:(((b6 f.b sc).2:Int)==0)=((b6 f.b sc).2==0):=beqN _ 0;generalize b6 f.b sc=q at *;cases ok with
  |true=>simp(disch:=first|exact y7|fail) only[go_sem,X_bm,c_bm,h,hp,be,z0,x0,z1,z2,z3,z4]
  |false=>simp(disch:=first|exact y7|fail) only[go_sem,X_bm,c_bm,h,hp,be,z0,x0,z1,z2,z3,z4]
def nanoI (o:Option Fld):Int:=IntKind.wrap .i64 ((o.getD fld0).u:Int)
def gy (has:Bool) (o:Option Fld):Bool:=(o.isSome==has)&&decide ((o.getD fld0).u≤4294967295)
include hA hl hn in
theorem bfu (dp:Nat) (num:Nat) (has ok:Bool):evL cfg n_cf (dp+1) [.ref 0 63 0,.d (.int .i64 ((num:Int))),.d (.bool (has))] (mR A ok)=some (.d (.int .i64 (nanoI (lastM fs num 0))),mR A (ok&&gy has (lastM fs num 0))):=by
 have h:=bx fs num hn;have z0:=fun r=>lkA (r:=r) hl
 have z1:=lkC hA ⟨0,63,9⟩ zb;have z2:=stC hA ⟨0,63,9⟩ zb;have z3:=ed hA.aok;have z4:=jk hA.aok (dp+1) (Nat.zero_lt_succ _);unfold mR gy nanoI;rw[e_cf (dp+1) _ _ rfl rfl];unfold uintD at h;have be:decide (((((lastM fs num 0).getD fld0).u:Nat):Int)≤4294967295)=decide (((lastM fs num 0).getD fld0).u≤4294967295):=by
  rw[aal];simp only[zm];omega
 generalize lastM fs num 0=o at *;cases ok with
 |false=>simp(disch:=first|exact y7|fail) only[go_sem,X_cf,c_cf,h,be,z0,z1,z2,z3,z4]
 | true=>
  rcases zf (o.isSome==has) with e|e
  · simp(disch:=first|exact y7|fail) only[go_sem,X_cf,c_cf,h,be,e,z0,z1,z2,z3,z4]
  · simp(disch:=first|exact y7|fail) only[go_sem,X_cf,c_cf,h,be,e,z0,z1,z2,z3,z4]
theorem qg (hA':Aoc 0 [⟨0,63,9⟩] A) (dp:Nat) (f:FuncId) (x1 x2:Int) (i1 i2 ok ok1 ok2:Bool)
  (h1:evL cfg f (dp+1+1) [.ref 0 63 0,.d (.int .i64 (1))] (mR A ok)=some (.d (.tup [.int .i64 x1,.bool i1]),mR A ok1)) (h2:evL cfg f (dp+1+1) [.ref 0 63 0,.d (.int .i64 (2))] (mR A ok1)=some (.d (.tup [.int .i64 x2,.bool i2]),mR A ok2)):
  evL cfg n_co (dp+1) [.ref 0 63 0,.clo f [.ref 0 63 0] []] (mR A ok)=some (.d (.tup [.int .i64 x1,.int .i64 x2,.bool i1]),mR A (ok2&&(i1==i2))):=by
 have z1:=lkC hA' ⟨0,63,9⟩ zb;have z2:=stC hA' ⟨0,63,9⟩ zb;have z3:=ed hA'.aok;have z4:=jk hA'.aok (dp+1) (Nat.zero_lt_succ _);have z5:=cutN hA'.aok (dp+1) y8;have z6:=allN hA'.aok;unfold mR at h1 h2 ⊢;rw[e_co (dp+1) _ _ rfl rfl];cases ok2 with
 |true=>simp(disch:=first|exact y7|fail) only[go_sem,X_co,c_co,h1,h2,z1,z2,z3,z4,z5,z6,List.all_cons,List.all_nil]
 |false=>simp(disch:=first|exact y7|fail) only[go_sem,X_co,c_co,h1,h2,z1,z2,z3,z4,z5,z6,List.all_cons,List.all_nil]
theorem xg (hA':Aoc 0 [⟨0,63,9⟩] A) (dp:Nat) (f:FuncId) (x1 x2:List UInt8) (i1 i2 ok ok1 ok2:Bool)
  (h1:evL cfg f (dp+1+1) [.ref 0 63 0,.d (.int .i64 (1))] (mR A ok)=some (.d (.tup [.sl (x1.map byteD),.bool i1]),mR A ok1)) (h2:evL cfg f (dp+1+1) [.ref 0 63 0,.d (.int .i64 (2))] (mR A ok1)=some (.d (.tup [.sl (x2.map byteD),.bool i2]),mR A ok2)):
  evL cfg n_cr (dp+1) [.ref 0 63 0,.clo f [.ref 0 63 0] []] (mR A ok)=some (.d (.tup [.sl (x1.map byteD),.sl (x2.map byteD),.bool i1]),mR A (ok2&&(i1==i2))):=by
 have z1:=lkC hA' ⟨0,63,9⟩ zb;have z2:=stC hA' ⟨0,63,9⟩ zb;have z3:=ed hA'.aok;have z4:=jk hA'.aok (dp+1) (Nat.zero_lt_succ _);have z5:=cutN hA'.aok (dp+1) y8;have z6:=allN hA'.aok;unfold mR at h1 h2 ⊢;rw[e_cr (dp+1) _ _ rfl rfl];cases ok2 with
 |true=>simp(disch:=first|exact y7|fail) only[go_sem,X_cr,c_cr,h1,h2,z1,z2,z3,z4,z5,z6,List.all_cons,List.all_nil]
 |false=>simp(disch:=first|exact y7|fail) only[go_sem,X_cr,c_cr,h1,h2,z1,z2,z3,z4,z5,z6,List.all_cons,List.all_nil]
end
end Go.Proofs.YtlcnfnjdelmkdaaGreatDoor
namespace Go.Proofs.YtlcnfnjdelmkdaaGreatDoor
open Go Go.Ev
set_option maxHeartbeats 8000000
def va0:Va:= .mk false 0 0 [] []
def leaf (i n:Int) (b:List UInt8):Va:= .mk false i n b []
theorem qi (i n:Int) (b:List UInt8):(leaf i n b).d= .agg [.bool false,.int .i64 i,.int .i64 n,txt b,.sl []]:=by rw[Va.d_eq];rfl
def boxX (c:Int) (nl has:Bool) (i1 n1:Int) (b1:D) (i2 n2:Int) (b2:D) (sums:Bool) (sum:Int):List (Cel×V):=
 [(⟨0,12,0⟩,.d (.int .i64 (c))),(⟨0,12,1⟩,.d (.bool (nl))),(⟨0,12,2⟩,.d (.bool (has))),(⟨0,12,3⟩,.d (.bool (false))),(⟨0,12,4⟩,.d (.int .i64 (i1))),(⟨0,12,5⟩,.d (.int .i64 (n1))),(⟨0,12,6⟩,.d b1),(⟨0,12,7⟩,.d .nilS),
  (⟨0,12,8⟩,.d (.bool (false))),(⟨0,12,9⟩,.d (.int .i64 (i2))),(⟨0,12,10⟩,.d (.int .i64 (n2))),(⟨0,12,11⟩,.d b2),(⟨0,12,12⟩,.d .nilS),(⟨0,12,13⟩,.d (.bool (sums))),(⟨0,12,14⟩,.d (.int .i64 (sum)))]
def boxR (n:Nd) (fs:List Fld):List (Cel×V):=[(⟨0,63,0⟩,.d (.int .i64 (n.kind))),(⟨0,63,1⟩,.d (.sl n.names)),(⟨0,63,2⟩,.d (.sl n.kids)),(⟨0,63,3⟩,.d (.int .i64 (n.len))),(⟨0,63,4⟩,.d (.int .i64 (n.prec))),(⟨0,63,5⟩,.d (.int .i64 ((n.scale:Int)))),(⟨0,63,6⟩,.d (.int .i64 (n.parent))),(⟨0,63,7⟩,.d (.int .i64 (n.deep))),(⟨0,63,8⟩,.d (.sl (fs.map Fld.d)))]
def zI (o:Option Fld):Int:=zagI (o.getD fld0).u
def xI (sc:Nat):Option Fld→Int
 |none=>0
 |some f=>(b6 f.b sc).1
theorem exD_x (sc:Nat) (o:Option Fld):exD sc o= .d (.tup [.int .i64 (xI sc o),.bool o.isSome]):=by cases o<;>rfl
section
variable {A:List (Cel×V)} (hA:Aok 0 [12,63] A) (n:Nd) (fs:List Fld) (hs:n.scale≤18) (hn:fs.length≤1000000) (hu:∀ f∈fs,f.u<18446744073709551616) (hb:∀ f∈fs,f.b.length≤4000) (hb':∀ f∈fs,f.b.length≤1000000)
variable (c:Int) (nl has:Bool) (i1 n1:Int) (b1:D) (i2 n2:Int) (b2:D) (sums:Bool) (sum:Int)
include hA
theorem aoc_m:Aoc 0 [⟨0,63,9⟩] (A++(boxX c nl has i1 n1 b1 i2 n2 b2 sums sum++boxR n fs)):=by
 intro p hp;rcases aa3.1 hp with hp|hp
 · obtain⟨h1,h2,h3⟩:=hA p hp
   refine⟨h1,fun e=>h2 ?_,h3⟩
   rw[aa1] at e;rw[e];simp
 · simp only[boxX,boxR,List.cons_append,List.nil_append,aac,aa5,or_false] at hp
   rcases hp with rfl|rfl|rfl|rfl|rfl|rfl|rfl|rfl|rfl|rfl|rfl|rfl|rfl|rfl|rfl|rfl|rfl|rfl|rfl|rfl|rfl|rfl|rfl|rfl<;>exact⟨rfl,by simp,_,rfl⟩
theorem lk_m8:lk (A++(boxX c nl has i1 n1 b1 i2 n2 b2 sums sum++boxR n fs)) ⟨0,63,8⟩=some (.d (.sl (fs.map Fld.d))):=by rw[lkN hA 63 8 zb];rfl
theorem lk_m5:lk (A++(boxX c nl has i1 n1 b1 i2 n2 b2 sums sum++boxR n fs)) ⟨0,63,5⟩=some (.d (.int .i64 ((n.scale:Int)))):=by rw[lkN hA 63 5 zb];rfl
abbrev mS (A:List (Cel×V)) (n:Nd) (fs:List Fld) (c:Int) (nl has:Bool) (i1 n1:Int) (b1:D) (i2 n2:Int) (b2:D) (sums:Bool) (sum:Int) (ok:Bool):List (Cel×V):=mR (A++(boxX c nl has i1 n1 b1 i2 n2 b2 sums sum++boxR n fs)) ok
include hn hu in
theorem m_int (dp num:Nat) (ok:Bool):evL cfg n_de (dp+1) [.ref 0 63 0,.d (.int .i64 ((num:Int)))] (mS A n fs c nl has i1 n1 b1 i2 n2 b2 sums sum ok)=some (intD (lastM fs num 0),mS A n fs c nl has i1 n1 b1 i2 n2 b2 sums sum ok):=
 bh0 (aoc_m hA n fs c nl has i1 n1 b1 i2 n2 b2 sums sum) fs (lk_m8 hA n fs c nl has i1 n1 b1 i2 n2 b2 sums sum) hn hu dp num ok
include hn hb' in
theorem m_text (dp num:Nat) (ok:Bool):evL cfg n_dl (dp+1) [.ref 0 63 0,.d (.int .i64 ((num:Int)))] (mS A n fs c nl has i1 n1 b1 i2 n2 b2 sums sum ok)=some (textD (lastM fs num 2),mS A n fs c nl has i1 n1 b1 i2 n2 b2 sums sum ok):=
 bft (aoc_m hA n fs c nl has i1 n1 b1 i2 n2 b2 sums sum) fs (lk_m8 hA n fs c nl has i1 n1 b1 i2 n2 b2 sums sum) hn hb' dp num ok
include hn hb hs in
theorem au1 (dp num:Nat) (ok:Bool):evL cfg n_bm (dp+1) [.ref 0 63 0,.d (.int .i64 ((num:Int)))] (mS A n fs c nl has i1 n1 b1 i2 n2 b2 sums sum ok)=some (exD n.scale (lastM fs num 2),mS A n fs c nl has i1 n1 b1 i2 n2 b2 sums sum (ok&&exOk n.scale (lastM fs num 2))):=
 aol (aoc_m hA n fs c nl has i1 n1 b1 i2 n2 b2 sums sum) fs (lk_m8 hA n fs c nl has i1 n1 b1 i2 n2 b2 sums sum) hn hb dp num n.scale hs (lk_m5 hA n fs c nl has i1 n1 b1 i2 n2 b2 sums sum) ok
include hn in
theorem m_nano (dp num:Nat) (hs2 ok:Bool):evL cfg n_cf (dp+1) [.ref 0 63 0,.d (.int .i64 ((num:Int))),.d (.bool (hs2))] (mS A n fs c nl has i1 n1 b1 i2 n2 b2 sums sum ok)=some (.d (.int .i64 (nanoI (lastM fs num 0))),mS A n fs c nl has i1 n1 b1 i2 n2 b2 sums sum (ok&&gy hs2 (lastM fs num 0))):=
 bfu (aoc_m hA n fs c nl has i1 n1 b1 i2 n2 b2 sums sum) fs (lk_m8 hA n fs c nl has i1 n1 b1 i2 n2 b2 sums sum) hn dp num hs2 ok
include hn hu in
theorem au0 (ok:Bool):evL cfg n_co 2 [.ref 0 63 0,.clo n_de [.ref 0 63 0] []] (mS A n fs c nl has i1 n1 b1 i2 n2 b2 sums sum ok)=
  some (.d (.tup [.int .i64 (zI (lastM fs 1 0)),.int .i64 (zI (lastM fs 2 0)),.bool (lastM fs 1 0).isSome]),mS A n fs c nl has i1 n1 b1 i2 n2 b2 sums sum (ok&&((lastM fs 1 0).isSome==(lastM fs 2 0).isSome))):=
 qg (aoc_m hA n fs c nl has i1 n1 b1 i2 n2 b2 sums sum) 1 n_de _ _ _ _ ok ok ok (m_int hA n fs hn hu c nl has i1 n1 b1 i2 n2 b2 sums sum 2 1 ok) (m_int hA n fs hn hu c nl has i1 n1 b1 i2 n2 b2 sums sum 2 2 ok)
include hn hb' in
theorem m_pairT (ok:Bool):evL cfg n_cr 2 [.ref 0 63 0,.clo n_dl [.ref 0 63 0] []] (mS A n fs c nl has i1 n1 b1 i2 n2 b2 sums sum ok)=
  some (.d (.tup [.sl (((lastM fs 1 2).getD fld0).b.map byteD),.sl (((lastM fs 2 2).getD fld0).b.map byteD),.bool (lastM fs 1 2).isSome]),mS A n fs c nl has i1 n1 b1 i2 n2 b2 sums sum (ok&&((lastM fs 1 2).isSome==(lastM fs 2 2).isSome))):=
 xg (aoc_m hA n fs c nl has i1 n1 b1 i2 n2 b2 sums sum) 1 n_dl _ _ _ _ ok ok ok (m_text hA n fs hn hb' c nl has i1 n1 b1 i2 n2 b2 sums sum 2 1 ok) (m_text hA n fs hn hb' c nl has i1 n1 b1 i2 n2 b2 sums sum 2 2 ok)
include hn hb hs in
theorem m_pairX (ok:Bool):evL cfg n_co 2 [.ref 0 63 0,.clo n_bm [.ref 0 63 0] []] (mS A n fs c nl has i1 n1 b1 i2 n2 b2 sums sum ok)=
  some (.d (.tup [.int .i64 (xI n.scale (lastM fs 1 2)),.int .i64 (xI n.scale (lastM fs 2 2)),.bool (lastM fs 1 2).isSome]),mS A n fs c nl has i1 n1 b1 i2 n2 b2 sums sum (ok&&exOk n.scale (lastM fs 1 2)&&exOk n.scale (lastM fs 2 2)&&((lastM fs 1 2).isSome==(lastM fs 2 2).isSome))):=by
 have h1:=au1 hA n fs hs hn hb c nl has i1 n1 b1 i2 n2 b2 sums sum 2 1 ok;have h2:=au1 hA n fs hs hn hb c nl has i1 n1 b1 i2 n2 b2 sums sum 2 2 (ok&&exOk n.scale (lastM fs 1 2));rw[exD_x] at h1;rw[exD_x] at h2;exact qg (aoc_m hA n fs c nl has i1 n1 b1 i2 n2 b2 sums sum) 1 n_bm _ _ _ _ ok _ _ h1 h2
end
