import Derived.Test.YtpnhljhciibfnaaGreatDoorStO
import Derived.Test.YtpnhljhciibfnaaGreatDoorVaF
set_option linter.unusedSimpArgs false
set_option linter.unusedSectionVars false
namespace Go.Proofs.YtpnhljhciibfnaaGreatDoor
open Go Go.Ev
set_option maxHeartbeats 8000000
def Cn:AD:=(.seq as1 (.cond (.t 358) (.seq as0 .ret) (.seq (.seq asz (.cond (.t 362) asy .skip)) (.seq asx .ret))))
def Ba:AD:=(.seq brh (.seq brg (.seq brf (.seq bre (.cond (.t 49) (.seq brd .ret) (.seq brc (.seq brb (.cond (.t 58) (.seq bra .ret) (.seq bq9 (.seq bq8 (.seq au3 (.seq (.block 0 (.seq au2 (.cond (.t 70) au1 (.seq au0 (.cond (.t 74) auz (.seq auy (.cond (.t 78) aux (.seq auw (.cond (.t 82) auv (.seq auu (.cond (.t 86) aut (.seq aus (.cond (.t 90) aur (.seq auq (.cond (.t 94) aup .skip))))))))))))))) (.seq auo (.cond (.t 99) (.seq aun .ret) (.seq aum (.seq aul (.cond (.t 109) (.seq auk .ret) (.seq auj (.cond (.t 113) (.seq aui .ret) (.seq auh (.seq (.seq aug (.block 1 (.seq (.seq auf (.cond (.t 116) .skip aue)) (.cond (.t 116) (.seq aud (.seq auc (.cond (.t 132) aub .skip))) (.seq aua (.cond (.t 140) (.seq at9 (.seq at8 (.seq at7 (.seq at6 (.seq at5 (.seq at4 at3)))))) (.seq at2 (.cond (.t 170) (.seq at1 (.seq (.seq at0 (.cond (.t 178) (.seq atz .ret) .skip)) (.seq (.seq aty (.cond (.t 194) (.seq atx .ret) .skip)) (.seq atw (.cond (.t 198) (.seq atv atu) .skip))))) (.seq att (.cond (.t 205) (.seq ats (.seq atr (.seq atq (.seq atp (.seq ato (.seq atn (.seq atm (.seq (.seq atl (.cond (.t 232) (.seq atk (.seq atj (.seq ati (.seq ath atg)))) .skip)) (.seq (.seq atf (.cond (.t 258) (.seq ate (.seq atd atc)) .skip)) atb))))))))) (.seq ata (.cond (.t 277) as9 (.seq as8 (.cond (.t 286) (.seq as7 (.seq as6 (.seq as5 (.seq as4 (.seq as3 as2))))) .skip)))))))))))))) Cn)))))))))))))))))))))
theorem fj:bB=Ba:=rfl
def ef (k:Nat):List (Cel×V):=[(⟨0,k,0⟩,.d (.int .i64 (0))),(⟨0,k,1⟩,.d (.bool (false))),(⟨0,k,2⟩,.d (.bool (false))),(⟨0,k,3⟩,.d (.bool (false))),(⟨0,k,4⟩,.d (.int .i64 (0))),(⟨0,k,5⟩,.d (.int .i64 (0))),(⟨0,k,6⟩,.d .AB),(⟨0,k,7⟩,.d .AB),(⟨0,k,8⟩,.d (.bool (false))),(⟨0,k,9⟩,.d (.int .i64 (0))),(⟨0,k,10⟩,.d (.int .i64 (0))),(⟨0,k,11⟩,.d .AB),(⟨0,k,12⟩,.d .AB),(⟨0,k,13⟩,.d (.bool (false))),(⟨0,k,14⟩,.d (.int .i64 (0)))]
def fc (c:Int) (nl has:Bool) (i1 n1:Int) (b1:D) (i2 n2:Int) (b2:D) (AU:Bool) (sum:Int):List (Cel×V):=
 [(⟨0,13,0⟩,.d (.int .i64 (c))),(⟨0,13,1⟩,.d (.bool (nl))),(⟨0,13,2⟩,.d (.bool (has))),(⟨0,13,3⟩,.d (.bool (false))),(⟨0,13,4⟩,.d (.int .i64 (i1))),(⟨0,13,5⟩,.d (.int .i64 (n1))),(⟨0,13,6⟩,.d b1),(⟨0,13,7⟩,.d .AB),
  (⟨0,13,8⟩,.d (.bool (false))),(⟨0,13,9⟩,.d (.int .i64 (i2))),(⟨0,13,10⟩,.d (.int .i64 (n2))),(⟨0,13,11⟩,.d b2),(⟨0,13,12⟩,.d .AB),(⟨0,13,13⟩,.d (.bool (AU))),(⟨0,13,14⟩,.d (.int .i64 (sum)))]
def mT (t:Ty) (c:Int) (nl has:Bool) (i1 n1:Int) (b1:D) (i2 n2:Int) (b2:D) (AU:Bool) (sum:Int):List (Cel×V):=Au 2 t++(ef 4++(ef 6++fc c nl has i1 n1 b1 i2 n2 b2 AU sum))
def DN (t:Ty) (v:Va):Bool:=CM t v !=0
def BQ (t:Ty) (s:Sv) (ok:Bool):Sv×Nat:=
 if(!ok||(s.has&&(DN t s.mn||DN t s.mx)))=true then(sv0,2) else(⟨s.cnt,s.null,s.has,s.mn,s.mx,s.AU,if s.AU=true then s.sum else 0⟩,0)
theorem bz (t:Ty) (c:Int) (nl has:Bool) (i1 n1:Int) (b1:D) (x1:List UInt8) (i2 n2:Int) (b2:D) (x2:List UInt8) (AU:Bool) (sum:Int) (ok:Bool) (ho:BT t=0)
  (hb1:b1.can=txt x1∧b1.AW=true) (hb2:b2.can=txt x2∧b2.AW=true) (hi1:inI i1) (hi2:inI i2) (hx1:x1.length≤4000) (hx2:x2.length≤4000):
  go Aw [.c Cn] ⟨[(2,.ref 0 2 0),(4,.ref 0 4 0),(6,.ref 0 6 0),(13,.ref 0 13 0),(18,.d (.bool (ok)))],mT t c nl has i1 n1 b1 i2 n2 b2 AU sum⟩=some (A6 (BQ t ⟨c,nl,has,leaf i1 n1 x1,leaf i2 n2 x2,AU,sum⟩ ok).1 ((BQ t ⟨c,nl,has,leaf i1 n1 x1,leaf i2 n2 x2,AU,sum⟩ ok).2:Int),[]):=by
 have k1:=A4 (leaf i1 n1 x1).size (leaf i1 n1 x1) t (abn _) ((CA _).2 ⟨hi1,by simp only[leaf,Va.b];omega,by simp[leaf,Va.kids],by simp[leaf,Va.kids,Eo]⟩) ⟨ho,fun k _=>trivial⟩
 have k2:=A4 (leaf i2 n2 x2).size (leaf i2 n2 x2) t (abn _) ((CA _).2 ⟨hi2,by simp only[leaf,Va.b];omega,by simp[leaf,Va.kids],by simp[leaf,Va.kids,Eo]⟩) ⟨ho,fun k _=>trivial⟩
 have f1:=(r7 i1 n1 x1).symm;have f2:=(r7 i2 n2 x2).symm;obtain⟨c1,g1⟩:=hb1;obtain⟨c2,g2⟩:=hb2;have e1:∀ t v,(CM t v !=0)=DN t v:=fun _ _=>rfl
 simp only[mT,Au,ef,fc,List.cons_append,List.nil_append];cases ok with
 | false=>
  unfold BQ A6;rw[if_pos aa3];dsimp only;rw[Bx];simp(maxSteps:=2000000) (disch:=first|exact aa0|fail) only[go_sem,Aw,Cn,c1,g1,c2,g2]
  rfl
 | true=>
  cases has with
  | false=>
   unfold BQ A6;rw[if_neg aa3];dsimp only;simp only[Sv.d,Sv.cs,leaf,Va.null,Va.i,Va.n,Va.b,Va.kids,List.map_nil];cases AU with
   |false=>simp(maxSteps:=2000000) (disch:=first|exact aa0|fail) only[go_sem,Aw,Cn,c1,g1,c2,g2]
   |true=>simp(maxSteps:=2000000) (disch:=first|exact aa0|fail) only[go_sem,Aw,Cn,c1,g1,c2,g2]
  | true=>
   rcases aa5 (DN t (leaf i1 n1 x1)) with q1|q1
   · unfold BQ A6
     dsimp only;rw[if_pos (by rw[q1];rfl)]
     dsimp only;rw[Bx];simp(maxSteps:=2000000) (disch:=first|exact aa0|fail) only[go_sem,Aw,Cn,c1,g1,c2,g2,f1,f2,k1,k2,e1,q1]
     rfl
   · rcases aa5 (DN t (leaf i2 n2 x2)) with q2|q2
     · unfold BQ A6
       dsimp only;rw[if_pos (by rw[q1,q2];rfl)]
       dsimp only;rw[Bx];simp(maxSteps:=2000000) (disch:=first|exact aa0|fail) only[go_sem,Aw,Cn,c1,g1,c2,g2,f1,f2,k1,k2,e1,q1,q2]
       rfl
     · unfold BQ A6
       dsimp only;rw[if_neg (by rw[q1,q2];simp)]
       dsimp only;simp only[Sv.d,Sv.cs];cases AU with
       | false=>
        simp(maxSteps:=2000000) (disch:=first|exact aa0|fail) only[go_sem,Aw,Cn,c1,g1,c2,g2,f1,f2,k1,k2,e1,q1,q2]
        rfl
       | true=>
        simp(maxSteps:=2000000) (disch:=first|exact aa0|fail) only[go_sem,Aw,Cn,c1,g1,c2,g2,f1,f2,k1,k2,e1,q1,q2]
        rfl
theorem bf5 (t:Ty) (c:Int) (nl has:Bool) (i1 n1:Int) (b1:D) (x1:List UInt8) (i2 n2:Int) (b2:D) (x2:List UInt8) (AU:Bool) (sum:Int) (ok:Bool) (y15 y132:D) (ho:BT t=0)
  (hb1:b1.can=txt x1∧b1.AW=true) (hb2:b2.can=txt x2∧b2.AW=true) (hi1:inI i1) (hi2:inI i2) (hx1:x1.length≤4000) (hx2:x2.length≤4000):
  go Aw [.c Cn] ⟨[(2,.ref 0 2 0),(4,.ref 0 4 0),(6,.ref 0 6 0),(13,.ref 0 13 0),(15,.d y15),(18,.d (.bool (ok))),(132,.d y132)],mT t c nl has i1 n1 b1 i2 n2 b2 AU sum⟩=some (A6 (BQ t ⟨c,nl,has,leaf i1 n1 x1,leaf i2 n2 x2,AU,sum⟩ ok).1 ((BQ t ⟨c,nl,has,leaf i1 n1 x1,leaf i2 n2 x2,AU,sum⟩ ok).2:Int),[]):=by
 have k1:=A4 (leaf i1 n1 x1).size (leaf i1 n1 x1) t (abn _) ((CA _).2 ⟨hi1,by simp only[leaf,Va.b];omega,by simp[leaf,Va.kids],by simp[leaf,Va.kids,Eo]⟩) ⟨ho,fun k _=>trivial⟩
 have k2:=A4 (leaf i2 n2 x2).size (leaf i2 n2 x2) t (abn _) ((CA _).2 ⟨hi2,by simp only[leaf,Va.b];omega,by simp[leaf,Va.kids],by simp[leaf,Va.kids,Eo]⟩) ⟨ho,fun k _=>trivial⟩
 have f1:=(r7 i1 n1 x1).symm;have f2:=(r7 i2 n2 x2).symm;obtain⟨c1,g1⟩:=hb1;obtain⟨c2,g2⟩:=hb2;have e1:∀ t v,(CM t v !=0)=DN t v:=fun _ _=>rfl
 simp only[mT,Au,ef,fc,List.cons_append,List.nil_append];cases ok with
 | false=>
  unfold BQ A6;rw[if_pos aa3];dsimp only;rw[Bx];simp(maxSteps:=2000000) (disch:=first|exact aa0|fail) only[go_sem,Aw,Cn,c1,g1,c2,g2]
  rfl
 | true=>
  cases has with
  | false=>
   unfold BQ A6;rw[if_neg aa3];dsimp only;simp only[Sv.d,Sv.cs,leaf,Va.null,Va.i,Va.n,Va.b,Va.kids,List.map_nil];cases AU with
   |false=>simp(maxSteps:=2000000) (disch:=first|exact aa0|fail) only[go_sem,Aw,Cn,c1,g1,c2,g2]
   |true=>simp(maxSteps:=2000000) (disch:=first|exact aa0|fail) only[go_sem,Aw,Cn,c1,g1,c2,g2]
  | true=>
   rcases aa5 (DN t (leaf i1 n1 x1)) with q1|q1
   · unfold BQ A6
     dsimp only;rw[if_pos (by rw[q1];rfl)]
     dsimp only;rw[Bx];simp(maxSteps:=2000000) (disch:=first|exact aa0|fail) only[go_sem,Aw,Cn,c1,g1,c2,g2,f1,f2,k1,k2,e1,q1]
     rfl
   · rcases aa5 (DN t (leaf i2 n2 x2)) with q2|q2
     · unfold BQ A6
       dsimp only;rw[if_pos (by rw[q1,q2];rfl)]
       dsimp only;rw[Bx];simp(maxSteps:=2000000) (disch:=first|exact aa0|fail) only[go_sem,Aw,Cn,c1,g1,c2,g2,f1,f2,k1,k2,e1,q1,q2]
       rfl
     · unfold BQ A6
       dsimp only;rw[if_neg (by rw[q1,q2];simp)]
       dsimp only;simp only[Sv.d,Sv.cs];cases AU with
       | false=>
        simp(maxSteps:=2000000) (disch:=first|exact aa0|fail) only[go_sem,Aw,Cn,c1,g1,c2,g2,f1,f2,k1,k2,e1,q1,q2]
        rfl
       | true=>
        simp(maxSteps:=2000000) (disch:=first|exact aa0|fail) only[go_sem,Aw,Cn,c1,g1,c2,g2,f1,f2,k1,k2,e1,q1,q2]
        rfl
theorem bf4 (t:Ty) (c:Int) (nl has:Bool) (i1 n1:Int) (b1:D) (x1:List UInt8) (i2 n2:Int) (b2:D) (x2:List UInt8) (AU:Bool) (sum:Int) (ok:Bool) (y15 y132:D) (ho:BT t=0)
  (hb1:b1.can=txt x1∧b1.AW=true) (hb2:b2.can=txt x2∧b2.AW=true) (hi1:inI i1) (hi2:inI i2) (hx1:x1.length≤4000) (hx2:x2.length≤4000):
  go Aw [.c Cn] ⟨[(2,.ref 0 2 0),(4,.ref 0 4 0),(6,.ref 0 6 0),(13,.ref 0 13 0),(18,.d (.bool (ok))),(23,.d y15),(198,.d y132)],mT t c nl has i1 n1 b1 i2 n2 b2 AU sum⟩=some (A6 (BQ t ⟨c,nl,has,leaf i1 n1 x1,leaf i2 n2 x2,AU,sum⟩ ok).1 ((BQ t ⟨c,nl,has,leaf i1 n1 x1,leaf i2 n2 x2,AU,sum⟩ ok).2:Int),[]):=by
 have k1:=A4 (leaf i1 n1 x1).size (leaf i1 n1 x1) t (abn _) ((CA _).2 ⟨hi1,by simp only[leaf,Va.b];omega,by simp[leaf,Va.kids],by simp[leaf,Va.kids,Eo]⟩) ⟨ho,fun k _=>trivial⟩
 have k2:=A4 (leaf i2 n2 x2).size (leaf i2 n2 x2) t (abn _) ((CA _).2 ⟨hi2,by simp only[leaf,Va.b];omega,by simp[leaf,Va.kids],by simp[leaf,Va.kids,Eo]⟩) ⟨ho,fun k _=>trivial⟩
 have f1:=(r7 i1 n1 x1).symm;have f2:=(r7 i2 n2 x2).symm;obtain⟨c1,g1⟩:=hb1;obtain⟨c2,g2⟩:=hb2;have e1:∀ t v,(CM t v !=0)=DN t v:=fun _ _=>rfl
 simp only[mT,Au,ef,fc,List.cons_append,List.nil_append];cases ok with
 | false=>
  unfold BQ A6;rw[if_pos aa3];dsimp only;rw[Bx];simp(maxSteps:=2000000) (disch:=first|exact aa0|fail) only[go_sem,Aw,Cn,c1,g1,c2,g2]
  rfl
 | true=>
  cases has with
  | false=>
   unfold BQ A6;rw[if_neg aa3];dsimp only;simp only[Sv.d,Sv.cs,leaf,Va.null,Va.i,Va.n,Va.b,Va.kids,List.map_nil];cases AU with
   |false=>simp(maxSteps:=2000000) (disch:=first|exact aa0|fail) only[go_sem,Aw,Cn,c1,g1,c2,g2]
   |true=>simp(maxSteps:=2000000) (disch:=first|exact aa0|fail) only[go_sem,Aw,Cn,c1,g1,c2,g2]
  | true=>
   rcases aa5 (DN t (leaf i1 n1 x1)) with q1|q1
   · unfold BQ A6
     dsimp only;rw[if_pos (by rw[q1];rfl)]
     dsimp only;rw[Bx];simp(maxSteps:=2000000) (disch:=first|exact aa0|fail) only[go_sem,Aw,Cn,c1,g1,c2,g2,f1,f2,k1,k2,e1,q1]
     rfl
   · rcases aa5 (DN t (leaf i2 n2 x2)) with q2|q2
     · unfold BQ A6
       dsimp only;rw[if_pos (by rw[q1,q2];rfl)]
       dsimp only;rw[Bx];simp(maxSteps:=2000000) (disch:=first|exact aa0|fail) only[go_sem,Aw,Cn,c1,g1,c2,g2,f1,f2,k1,k2,e1,q1,q2]
       rfl
     · unfold BQ A6
       dsimp only;rw[if_neg (by rw[q1,q2];simp)]
       dsimp only;simp only[Sv.d,Sv.cs];cases AU with
       | false=>
        simp(maxSteps:=2000000) (disch:=first|exact aa0|fail) only[go_sem,Aw,Cn,c1,g1,c2,g2,f1,f2,k1,k2,e1,q1,q2]
        rfl
       | true=>
        simp(maxSteps:=2000000) (disch:=first|exact aa0|fail) only[go_sem,Aw,Cn,c1,g1,c2,g2,f1,f2,k1,k2,e1,q1,q2]
        rfl
theorem js (fs:List Fld) (hn:fs.length≤1000000) (hu:∀ f∈fs,f.u<18446744073709551616):
  evL cfg Rr 0 [.d (.sl (fs.map Fld.d))] []=some (.d (.tup [.int .i64 (zI (AA fs 1 0)),.int .i64 (zI (AA fs 2 0)),.bool (AA fs 1 0).isSome,.bool ((AA fs 1 0).isSome==(AA fs 2 0).isSome)]),[]):=by
 have h1:=fz fs 1 hn hu;have h2:=fz fs 2 hn hu;rw[show((1:Nat):Int)=1 from rfl] at h1
 rw[show((2:Nat):Int)=2 from rfl] at h2
 rw[o_da];unfold zI;unfold FA at h1 h2;simp(disch:=first|exact aa0|fail) only[go_sem,X_da,aE,h1,h2]
theorem aw (fs:List Fld) (k:Nat) (hn:fs.length≤1000000) (hb:∀ f∈fs,f.b.length≤1000000):
  evL cfg Tv 0 [.d (.sl (fs.map Fld.d)),.d (.int .i64 ((k:Int)))] []=some (match AA fs k 2 with|none=> .d (.tup [.sl [],.bool false,.int .i64 0])|some f=> .d (.tup [.sl ((aa f.b).1.map Fld.d),.bool true,.int .i64 ((aa f.b).2:Int)]),[]):=by
 have ht:=dw fs k hn;rw[o_b5];unfold Cf at ht;cases ho:AA fs k 2 with
 | none=>
  rw[ho] at ht;simp(disch:=first|exact aa0|fail) only[go_sem,oP,XR,ht]
 | some f=>
  have hp:=al f.b (hb f (iw _ _ ho));unfold dh at hp;rw[ho] at ht;simp only[Option.getD_some,Option.isSome_some] at ht;simp(disch:=first|exact aa0|fail) only[go_sem,oP,XR,ht,hp]
end Go.Proofs.YtpnhljhciibfnaaGreatDoor
namespace Go.Proofs.YtpnhljhciibfnaaGreatDoor
open Go Go.Ev
set_option maxHeartbeats 8000000
theorem cw (t:List UInt8) (s:Nat):(az t s).2≤4:=by
 unfold az;split
 · simp
 · split
   · simp
   · exact(zo _ _ 0 in0).2
section
variable (t:Ty) (b:List UInt8) (hl:b.length≤2000)
include hl
theorem rr_e1 (h:(aa b).2≠0):evL cfg Dq 0 [.d t.d,.d (.sl ((b).map AM))] []=some (A6 sv0 ((aa b).2:Int),[]):=by
 have hp:=al b aa1;have f1:=am t.kind;have f2:=ai t.kind;have hpm:=df t.kind;rw[FR,fj];unfold A6;rw[Bx];unfold dh at hp;have e3:(((aa b).2:Int) !=0)=true:=by simp;omega
 generalize aa b=q at *;simp(maxSteps:=2000000) (disch:=first|exact aa0|fail) only[go_sem,Aw,Ba,hp,e3]
theorem rr_e2 (h:(aa b).2=0) (h2:262144<uM (aa b).1 1) (hn:(aa b).1.length≤1000000):evL cfg Dq 0 [.d t.d,.d (.sl ((b).map AM))] []=some (A6 sv0 2,[]):=by
 have hp:=al b aa1;have f1:=am t.kind;have f2:=ai t.kind;have hpm:=df t.kind;have u1:=ae (aa b).1 1 hn;rw[FR,fj];unfold A6;rw[Bx];unfold dh at hp;rw[h,show((0:Nat):Int)=0 from rfl] at hp
 rw[show((1:Nat):Int)=1 from rfl] at u1
 unfold uM at h2;unfold Bh at u1;generalize(aa b).1=fs at *;have d1:decide ((((AA fs 1 0).getD Af).u:Int)>262144)=true:=by simp;omega
 simp(maxSteps:=2000000) (disch:=first|exact aa0|fail) only[go_sem,Aw,Ba,hp,u1,d1]
section
variable (h:(aa b).2=0) (h2:uM (aa b).1 1≤262144) (hn:(aa b).1.length≤1000000) (hb:∀ f∈(aa b).1,f.b.length≤1000000)
include h h2 hn hb
theorem YT (hk:AL t.kind=0):evL cfg Dq 0 [.d t.d,.d (.sl ((b).map AM))] []=some (A6 ⟨(uM (aa b).1 1:Int),uM (aa b).1 10 !=0,false,va0,va0,false,0⟩ 0,[]):=by
 have hp:=al b aa1;have f1:=am t.kind;have f2:=ai t.kind;have hpm:=df t.kind;have u1:=ae (aa b).1 1 hn;have u10:=ae (aa b).1 10 hn;rw[FR,fj];unfold dh at hp;rw[h,show((0:Nat):Int)=0 from rfl] at hp
 rw[show((1:Nat):Int)=1 from rfl] at u1
 rw[show((10:Nat):Int)=10 from rfl] at u10
 unfold uM at h2 ⊢;unfold Bh at u1 u10;unfold A6;generalize(aa b).1=fs at *;have d1:decide ((((AA fs 1 0).getD Af).u:Int)>262144)=false:=by simp;omega
 have d10:=cc ((AA fs 10 0).getD Af).u;generalize((AA fs 1 0).getD Af).u=v1 at *;generalize((AA fs 10 0).getD Af).u=v10 at *;have w1:IntKind.wrap .i64 (v1:Int)=v1:=au aa1 aa1;rcases aa5 (decide (t.kind≥1)&&decide (t.kind≤4)) with k0|k0
 · rw[k0,if_pos rfl] at hpm
   omega
 rw[k0,if_neg aa3] at hpm;rcases aa5 (BV t.kind&&t.kind !=8) with k1|k1
 · rw[k1,if_pos rfl] at hpm
   omega
 rw[k1,if_neg aa3] at hpm;rcases aa5 (t.kind==0) with k2|k2
 · rw[k2,if_pos rfl] at hpm
   omega
 rw[k2,if_neg aa3] at hpm;rcases aa5 (t.kind==14) with k3|k3
 · rw[k3,if_pos rfl] at hpm
   omega
 rw[k3,if_neg aa3] at hpm;rcases aa5 (t.kind==15) with k4|k4
 · rw[k4,if_pos rfl] at hpm
   omega
 rw[k4,if_neg aa3] at hpm;rcases aa5 (t.kind==8) with k5|k5
 · rw[k5,if_pos rfl] at hpm
   omega
 rw[k5,if_neg aa3] at hpm;rcases aa5 (t.kind==9) with k6|k6
 · rw[k6,if_pos rfl] at hpm
   omega
 rw[k6,if_neg aa3] at hpm;simp(maxSteps:=2000000) (disch:=first|exact aa0|fail) only[go_sem,Aw,Ba,hp,f1,f2,u1,u10,d1,d10,w1,k0,k1,k2,k3,k4,k5,k6]
 rfl
theorem YU (hk:0<AL t.kind) (hf:AA (aa b).1 (AL t.kind).toNat 2=none):evL cfg Dq 0 [.d t.d,.d (.sl ((b).map AM))] []=some (A6 ⟨(uM (aa b).1 1:Int),uM (aa b).1 10 !=0,false,va0,va0,false,0⟩ 0,[]):=by
 have hp:=al b aa1;have f1:=am t.kind;have f2:=ai t.kind;have hpm:=df t.kind;have u1:=ae (aa b).1 1 hn;have u10:=ae (aa b).1 10 hn;rw[FR,fj];unfold dh at hp;rw[h,show((0:Nat):Int)=0 from rfl] at hp
 rw[show((1:Nat):Int)=1 from rfl] at u1
 rw[show((10:Nat):Int)=10 from rfl] at u10
 unfold uM at h2 ⊢;unfold Bh at u1 u10;have g:=aw (aa b).1 (AL t.kind).toNat hn hb;rw[hf,abs aa1] at g;dsimp only at g;unfold A6;generalize(aa b).1=fs at *;have d1:decide ((((AA fs 1 0).getD Af).u:Int)>262144)=false:=by simp;omega
 have d10:=cc ((AA fs 10 0).getD Af).u;generalize((AA fs 1 0).getD Af).u=v1 at *;generalize((AA fs 10 0).getD Af).u=v10 at *;have w1:IntKind.wrap .i64 (v1:Int)=v1:=au aa1 aa1;rcases aa5 (decide (t.kind≥1)&&decide (t.kind≤4)) with k0|k0
 · rw[k0,if_pos rfl] at hpm
   rw[hpm] at g;simp(maxSteps:=2000000) (disch:=first|exact aa0|fail) only[go_sem,Aw,Ba,hp,f1,f2,u1,u10,d1,d10,w1,g,k0]
   rfl
 rw[k0,if_neg aa3] at hpm;rcases aa5 (BV t.kind&&t.kind !=8) with k1|k1
 · rw[k1,if_pos rfl] at hpm
   rw[hpm] at g;simp(maxSteps:=2000000) (disch:=first|exact aa0|fail) only[go_sem,Aw,Ba,hp,f1,f2,u1,u10,d1,d10,w1,g,k0,k1]
   rfl
 rw[k1,if_neg aa3] at hpm;rcases aa5 (t.kind==0) with k2|k2
 · rw[k2,if_pos rfl] at hpm
   rw[hpm] at g;simp(maxSteps:=2000000) (disch:=first|exact aa0|fail) only[go_sem,Aw,Ba,hp,f1,f2,u1,u10,d1,d10,w1,g,k0,k1,k2]
   rfl
 rw[k2,if_neg aa3] at hpm;rcases aa5 (t.kind==14) with k3|k3
 · rw[k3,if_pos rfl] at hpm
   rw[hpm] at g;simp(maxSteps:=2000000) (disch:=first|exact aa0|fail) only[go_sem,Aw,Ba,hp,f1,f2,u1,u10,d1,d10,w1,g,k0,k1,k2,k3]
   rfl
 rw[k3,if_neg aa3] at hpm;rcases aa5 (t.kind==15) with k4|k4
 · rw[k4,if_pos rfl] at hpm
   rw[hpm] at g;simp(maxSteps:=2000000) (disch:=first|exact aa0|fail) only[go_sem,Aw,Ba,hp,f1,f2,u1,u10,d1,d10,w1,g,k0,k1,k2,k3,k4]
   rfl
 rw[k4,if_neg aa3] at hpm;rcases aa5 (t.kind==8) with k5|k5
 · rw[k5,if_pos rfl] at hpm
   rw[hpm] at g;simp(maxSteps:=2000000) (disch:=first|exact aa0|fail) only[go_sem,Aw,Ba,hp,f1,f2,u1,u10,d1,d10,w1,g,k0,k1,k2,k3,k4,k5]
   rfl
 rw[k5,if_neg aa3] at hpm;rcases aa5 (t.kind==9) with k6|k6
 · rw[k6,if_pos rfl] at hpm
   rw[hpm] at g;simp(maxSteps:=2000000) (disch:=first|exact aa0|fail) only[go_sem,Aw,Ba,hp,f1,f2,u1,u10,d1,d10,w1,g,k0,k1,k2,k3,k4,k5,k6]
   rfl
 rw[k6,if_neg aa3] at hpm;omega
section
variable {f:Fld} (hk:0<AL t.kind) (hf:AA (aa b).1 (AL t.kind).toNat 2=some f)
include hk hf
theorem rr_e3 (h3:(aa f.b).2≠0):evL cfg Dq 0 [.d t.d,.d (.sl ((b).map AM))] []=some (A6 sv0 ((aa f.b).2:Int),[]):=by
 have hp:=al b aa1;have f1:=am t.kind;have f2:=ai t.kind;have hpm:=df t.kind;have u1:=ae (aa b).1 1 hn;have u10:=ae (aa b).1 10 hn;rw[FR,fj];unfold dh at hp;rw[h,show((0:Nat):Int)=0 from rfl] at hp
 rw[show((1:Nat):Int)=1 from rfl] at u1
 rw[show((10:Nat):Int)=10 from rfl] at u10
 unfold uM at h2;unfold Bh at u1 u10;have g:=aw (aa b).1 (AL t.kind).toNat hn hb;rw[hf,abs aa1] at g;dsimp only at g;unfold A6;rw[Bx];have e3:(((aa f.b).2:Int) !=0)=true:=by simp;omega
 generalize(aa b).1=fs at *;generalize aa f.b=q at *;have d1:decide ((((AA fs 1 0).getD Af).u:Int)>262144)=false:=by simp;omega
 have d10:=cc ((AA fs 10 0).getD Af).u;generalize((AA fs 1 0).getD Af).u=v1 at *;generalize((AA fs 10 0).getD Af).u=v10 at *;have w1:IntKind.wrap .i64 (v1:Int)=v1:=au aa1 aa1;rcases aa5 (decide (t.kind≥1)&&decide (t.kind≤4)) with k0|k0
 · rw[k0,if_pos rfl] at hpm
   rw[hpm] at g;simp(maxSteps:=2000000) (disch:=first|exact aa0|fail) only[go_sem,Aw,Ba,hp,f1,f2,u1,u10,d1,d10,w1,g,e3,k0]
 rw[k0,if_neg aa3] at hpm;rcases aa5 (BV t.kind&&t.kind !=8) with k1|k1
 · rw[k1,if_pos rfl] at hpm
   rw[hpm] at g;simp(maxSteps:=2000000) (disch:=first|exact aa0|fail) only[go_sem,Aw,Ba,hp,f1,f2,u1,u10,d1,d10,w1,g,e3,k0,k1]
 rw[k1,if_neg aa3] at hpm;rcases aa5 (t.kind==0) with k2|k2
 · rw[k2,if_pos rfl] at hpm
   rw[hpm] at g;simp(maxSteps:=2000000) (disch:=first|exact aa0|fail) only[go_sem,Aw,Ba,hp,f1,f2,u1,u10,d1,d10,w1,g,e3,k0,k1,k2]
 rw[k2,if_neg aa3] at hpm;rcases aa5 (t.kind==14) with k3|k3
 · rw[k3,if_pos rfl] at hpm
   rw[hpm] at g;simp(maxSteps:=2000000) (disch:=first|exact aa0|fail) only[go_sem,Aw,Ba,hp,f1,f2,u1,u10,d1,d10,w1,g,e3,k0,k1,k2,k3]
 rw[k3,if_neg aa3] at hpm;rcases aa5 (t.kind==15) with k4|k4
 · rw[k4,if_pos rfl] at hpm
   rw[hpm] at g;simp(maxSteps:=2000000) (disch:=first|exact aa0|fail) only[go_sem,Aw,Ba,hp,f1,f2,u1,u10,d1,d10,w1,g,e3,k0,k1,k2,k3,k4]
 rw[k4,if_neg aa3] at hpm;rcases aa5 (t.kind==8) with k5|k5
 · rw[k5,if_pos rfl] at hpm
   rw[hpm] at g;simp(maxSteps:=2000000) (disch:=first|exact aa0|fail) only[go_sem,Aw,Ba,hp,f1,f2,u1,u10,d1,d10,w1,g,e3,k0,k1,k2,k3,k4,k5]
 rw[k5,if_neg aa3] at hpm;rcases aa5 (t.kind==9) with k6|k6
 · rw[k6,if_pos rfl] at hpm
   rw[hpm] at g;simp(maxSteps:=2000000) (disch:=first|exact aa0|fail) only[go_sem,Aw,Ba,hp,f1,f2,u1,u10,d1,d10,w1,g,e3,k0,k1,k2,k3,k4,k5,k6]
 rw[k6,if_neg aa3] at hpm;omega
end
end
end
