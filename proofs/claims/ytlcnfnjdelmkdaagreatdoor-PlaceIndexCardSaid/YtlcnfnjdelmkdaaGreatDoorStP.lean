import Derived.Test.YtlcnfnjdelmkdaaGreatDoorStO
import Derived.Test.YtlcnfnjdelmkdaaGreatDoorVaF
namespace Go.Proofs.YtlcnfnjdelmkdaaGreatDoor
open Go Go.Ev
set_option maxHeartbeats 8000000
def refT:ICode:=(.seq ass (.cond (.t 358) (.seq asr .ret) (.seq (.seq asq (.cond (.t 362) asp .skip)) (.seq aso .ret))))
def refB:ICode:=(.seq bre (.seq brd (.seq brc (.seq brb (.cond (.t 49) (.seq bra .ret) (.seq bq9 (.seq bq8 (.cond (.t 58) (.seq bq7 .ret) (.seq bq6 (.seq bq5 (.seq auu (.seq (.block 0 (.seq aut (.cond (.t 70) aus (.seq aur (.cond (.t 74) auq (.seq aup (.cond (.t 78) auo (.seq aun (.cond (.t 82) aum (.seq aul (.cond (.t 86) auk (.seq auj (.cond (.t 90) aui (.seq auh (.cond (.t 94) aug .skip))))))))))))))) (.seq auf (.cond (.t 99) (.seq aue .ret) (.seq aud (.seq auc (.cond (.t 109) (.seq aub .ret) (.seq aua (.cond (.t 113) (.seq at9 .ret) (.seq at8 (.seq (.seq at7 (.block 1 (.seq (.seq at6 (.cond (.t 116) .skip at5)) (.cond (.t 116) (.seq at4 (.seq at3 (.cond (.t 132) at2 .skip))) (.seq at1 (.cond (.t 140) (.seq at0 (.seq atz (.seq aty (.seq atx (.seq atw (.seq atv atu)))))) (.seq att (.cond (.t 170) (.seq ats (.seq (.seq atr (.cond (.t 178) (.seq atq .ret) .skip)) (.seq (.seq atp (.cond (.t 194) (.seq ato .ret) .skip)) (.seq atn (.cond (.t 198) (.seq atm atl) .skip))))) (.seq atk (.cond (.t 205) (.seq atj (.seq ati (.seq ath (.seq atg (.seq atf (.seq ate (.seq atd (.seq (.seq atc (.cond (.t 232) (.seq atb (.seq ata (.seq as9 (.seq as8 as7)))) .skip)) (.seq (.seq as6 (.cond (.t 258) (.seq as5 (.seq as4 as3)) .skip)) as2))))))))) (.seq as1 (.cond (.t 277) as0 (.seq asz (.cond (.t 286) (.seq asy (.seq asx (.seq asw (.seq asv (.seq asu ast))))) .skip)))))))))))))) refT)))))))))))))))))))))
theorem eh:c_aa=refB:=rfl
def dk (k:Nat):List (Cel×V):=[(⟨0,k,0⟩,.d (.int .i64 (0))),(⟨0,k,1⟩,.d (.bool (false))),(⟨0,k,2⟩,.d (.bool (false))),(⟨0,k,3⟩,.d (.bool (false))),(⟨0,k,4⟩,.d (.int .i64 (0))),(⟨0,k,5⟩,.d (.int .i64 (0))),(⟨0,k,6⟩,.d .nilS),(⟨0,k,7⟩,.d .nilS),(⟨0,k,8⟩,.d (.bool (false))),(⟨0,k,9⟩,.d (.int .i64 (0))),(⟨0,k,10⟩,.d (.int .i64 (0))),(⟨0,k,11⟩,.d .nilS),(⟨0,k,12⟩,.d .nilS),(⟨0,k,13⟩,.d (.bool (false))),(⟨0,k,14⟩,.d (.int .i64 (0)))]
def dx (c:Int) (nl has:Bool) (i1 n1:Int) (b1:D) (i2 n2:Int) (b2:D) (sums:Bool) (sum:Int):List (Cel×V):=
 [(⟨0,13,0⟩,.d (.int .i64 (c))),(⟨0,13,1⟩,.d (.bool (nl))),(⟨0,13,2⟩,.d (.bool (has))),(⟨0,13,3⟩,.d (.bool (false))),(⟨0,13,4⟩,.d (.int .i64 (i1))),(⟨0,13,5⟩,.d (.int .i64 (n1))),(⟨0,13,6⟩,.d b1),(⟨0,13,7⟩,.d .nilS),
  (⟨0,13,8⟩,.d (.bool (false))),(⟨0,13,9⟩,.d (.int .i64 (i2))),(⟨0,13,10⟩,.d (.int .i64 (n2))),(⟨0,13,11⟩,.d b2),(⟨0,13,12⟩,.d .nilS),(⟨0,13,13⟩,.d (.bool (sums))),(⟨0,13,14⟩,.d (.int .i64 (sum)))]
def mT (t:Ty) (c:Int) (nl has:Bool) (i1 n1:Int) (b1:D) (i2 n2:Int) (b2:D) (sums:Bool) (sum:Int):List (Cel×V):=boxT 2 t++(dk 4++(dk 6++dx c nl has i1 n1 b1 i2 n2 b2 sums sum))
def rbadL (t:Ty) (v:Va):Bool:=rchkV t v !=0
def finR (t:Ty) (s:Sv) (ok:Bool):Sv×Nat:=
 if(!ok||(s.has&&(rbadL t s.mn||rbadL t s.mx)))=true then(sv0,2) else(⟨s.cnt,s.null,s.has,s.mn,s.mx,s.sums,if s.sums=true then s.sum else 0⟩,0)
theorem bu (t:Ty) (c:Int) (nl has:Bool) (i1 n1:Int) (b1:D) (x1:List UInt8) (i2 n2:Int) (b2:D) (x2:List UInt8) (sums:Bool) (sum:Int) (ok:Bool) (ho:ownM t=0)
  (hb1:b1.can=txt x1∧b1.isCell=true) (hb2:b2.can=txt x2∧b2.isCell=true) (hi1:inI i1) (hi2:inI i2) (hx1:x1.length≤4000) (hx2:x2.length≤4000):
  go X_aa [.c refT] ⟨[(2,.ref 0 2 0),(4,.ref 0 4 0),(6,.ref 0 6 0),(13,.ref 0 13 0),(18,.d (.bool (ok)))],mT t c nl has i1 n1 b1 i2 n2 b2 sums sum⟩=some (resS (finR t ⟨c,nl,has,leaf i1 n1 x1,leaf i2 n2 x2,sums,sum⟩ ok).1 ((finR t ⟨c,nl,has,leaf i1 n1 x1,leaf i2 n2 x2,sums,sum⟩ ok).2:Int),[]):=by
 have k1:=ref14_Check_ans (leaf i1 n1 x1).size (leaf i1 n1 x1) t (z8 _) ((okV_eq _).2 ⟨hi1,by simp only[leaf,Va.b];omega,by simp[leaf,Va.kids],by simp[leaf,Va.kids,okVs]⟩) ⟨ho,fun k _=>trivial⟩
 have k2:=ref14_Check_ans (leaf i2 n2 x2).size (leaf i2 n2 x2) t (z8 _) ((okV_eq _).2 ⟨hi2,by simp only[leaf,Va.b];omega,by simp[leaf,Va.kids],by simp[leaf,Va.kids,okVs]⟩) ⟨ho,fun k _=>trivial⟩
 have f1:=(qi i1 n1 x1).symm;have f2:=(qi i2 n2 x2).symm;obtain⟨c1,g1⟩:=hb1;obtain⟨c2,g2⟩:=hb2;have e1:∀ t v,(rchkV t v !=0)=rbadL t v:=fun _ _=>rfl
 simp only[mT,boxT,dk,dx,List.cons_append,List.nil_append];cases ok with
 | false=>
  unfold finR resS;rw[if_pos zb];dsimp only;rw[sv0_d];simp(maxSteps:=2000000) (disch:=first|exact y7|fail) only[go_sem,X_aa,refT,c1,g1,c2,g2]
  rfl
 | true=>
  cases has with
  | false=>
   unfold finR resS;rw[if_neg zb];dsimp only;simp only[Sv.d,Sv.cs,leaf,Va.null,Va.i,Va.n,Va.b,Va.kids,List.map_nil];cases sums with
   |false=>simp(maxSteps:=2000000) (disch:=first|exact y7|fail) only[go_sem,X_aa,refT,c1,g1,c2,g2]
   |true=>simp(maxSteps:=2000000) (disch:=first|exact y7|fail) only[go_sem,X_aa,refT,c1,g1,c2,g2]
  | true=>
   rcases zf (rbadL t (leaf i1 n1 x1)) with q1|q1
   · unfold finR resS
     dsimp only;rw[if_pos (by rw[q1];rfl)]
     dsimp only;rw[sv0_d];simp(maxSteps:=2000000) (disch:=first|exact y7|fail) only[go_sem,X_aa,refT,c1,g1,c2,g2,f1,f2,k1,k2,e1,q1]
     rfl
   · rcases zf (rbadL t (leaf i2 n2 x2)) with q2|q2
     · unfold finR resS
       dsimp only;rw[if_pos (by rw[q1,q2];rfl)]
       dsimp only;rw[sv0_d];simp(maxSteps:=2000000) (disch:=first|exact y7|fail) only[go_sem,X_aa,refT,c1,g1,c2,g2,f1,f2,k1,k2,e1,q1,q2]
       rfl
     · unfold finR resS
       dsimp only;rw[if_neg (by rw[q1,q2];simp)]
       dsimp only;simp only[Sv.d,Sv.cs];cases sums with
       | false=>
        simp(maxSteps:=2000000) (disch:=first|exact y7|fail) only[go_sem,X_aa,refT,c1,g1,c2,g2,f1,f2,k1,k2,e1,q1,q2]
        rfl
       | true=>
        simp(maxSteps:=2000000) (disch:=first|exact y7|fail) only[go_sem,X_aa,refT,c1,g1,c2,g2,f1,f2,k1,k2,e1,q1,q2]
        rfl
theorem bfr (t:Ty) (c:Int) (nl has:Bool) (i1 n1:Int) (b1:D) (x1:List UInt8) (i2 n2:Int) (b2:D) (x2:List UInt8) (sums:Bool) (sum:Int) (ok:Bool) (y15 y132:D) (ho:ownM t=0)
  (hb1:b1.can=txt x1∧b1.isCell=true) (hb2:b2.can=txt x2∧b2.isCell=true) (hi1:inI i1) (hi2:inI i2) (hx1:x1.length≤4000) (hx2:x2.length≤4000):
  go X_aa [.c refT] ⟨[(2,.ref 0 2 0),(4,.ref 0 4 0),(6,.ref 0 6 0),(13,.ref 0 13 0),(15,.d y15),(18,.d (.bool (ok))),(132,.d y132)],mT t c nl has i1 n1 b1 i2 n2 b2 sums sum⟩=some (resS (finR t ⟨c,nl,has,leaf i1 n1 x1,leaf i2 n2 x2,sums,sum⟩ ok).1 ((finR t ⟨c,nl,has,leaf i1 n1 x1,leaf i2 n2 x2,sums,sum⟩ ok).2:Int),[]):=by
 have k1:=ref14_Check_ans (leaf i1 n1 x1).size (leaf i1 n1 x1) t (z8 _) ((okV_eq _).2 ⟨hi1,by simp only[leaf,Va.b];omega,by simp[leaf,Va.kids],by simp[leaf,Va.kids,okVs]⟩) ⟨ho,fun k _=>trivial⟩
 have k2:=ref14_Check_ans (leaf i2 n2 x2).size (leaf i2 n2 x2) t (z8 _) ((okV_eq _).2 ⟨hi2,by simp only[leaf,Va.b];omega,by simp[leaf,Va.kids],by simp[leaf,Va.kids,okVs]⟩) ⟨ho,fun k _=>trivial⟩
 have f1:=(qi i1 n1 x1).symm;have f2:=(qi i2 n2 x2).symm;obtain⟨c1,g1⟩:=hb1;obtain⟨c2,g2⟩:=hb2;have e1:∀ t v,(rchkV t v !=0)=rbadL t v:=fun _ _=>rfl
 simp only[mT,boxT,dk,dx,List.cons_append,List.nil_append];cases ok with
 | false=>
  unfold finR resS;rw[if_pos zb];dsimp only;rw[sv0_d];simp(maxSteps:=2000000) (disch:=first|exact y7|fail) only[go_sem,X_aa,refT,c1,g1,c2,g2]
  rfl
 | true=>
  cases has with
  | false=>
   unfold finR resS;rw[if_neg zb];dsimp only;simp only[Sv.d,Sv.cs,leaf,Va.null,Va.i,Va.n,Va.b,Va.kids,List.map_nil];cases sums with
   |false=>simp(maxSteps:=2000000) (disch:=first|exact y7|fail) only[go_sem,X_aa,refT,c1,g1,c2,g2]
   |true=>simp(maxSteps:=2000000) (disch:=first|exact y7|fail) only[go_sem,X_aa,refT,c1,g1,c2,g2]
  | true=>
   rcases zf (rbadL t (leaf i1 n1 x1)) with q1|q1
   · unfold finR resS
     dsimp only;rw[if_pos (by rw[q1];rfl)]
     dsimp only;rw[sv0_d];simp(maxSteps:=2000000) (disch:=first|exact y7|fail) only[go_sem,X_aa,refT,c1,g1,c2,g2,f1,f2,k1,k2,e1,q1]
     rfl
   · rcases zf (rbadL t (leaf i2 n2 x2)) with q2|q2
     · unfold finR resS
       dsimp only;rw[if_pos (by rw[q1,q2];rfl)]
       dsimp only;rw[sv0_d];simp(maxSteps:=2000000) (disch:=first|exact y7|fail) only[go_sem,X_aa,refT,c1,g1,c2,g2,f1,f2,k1,k2,e1,q1,q2]
       rfl
     · unfold finR resS
       dsimp only;rw[if_neg (by rw[q1,q2];simp)]
       dsimp only;simp only[Sv.d,Sv.cs];cases sums with
       | false=>
        simp(maxSteps:=2000000) (disch:=first|exact y7|fail) only[go_sem,X_aa,refT,c1,g1,c2,g2,f1,f2,k1,k2,e1,q1,q2]
        rfl
       | true=>
        simp(maxSteps:=2000000) (disch:=first|exact y7|fail) only[go_sem,X_aa,refT,c1,g1,c2,g2,f1,f2,k1,k2,e1,q1,q2]
        rfl
theorem bfq (t:Ty) (c:Int) (nl has:Bool) (i1 n1:Int) (b1:D) (x1:List UInt8) (i2 n2:Int) (b2:D) (x2:List UInt8) (sums:Bool) (sum:Int) (ok:Bool) (y15 y132:D) (ho:ownM t=0)
  (hb1:b1.can=txt x1∧b1.isCell=true) (hb2:b2.can=txt x2∧b2.isCell=true) (hi1:inI i1) (hi2:inI i2) (hx1:x1.length≤4000) (hx2:x2.length≤4000):
  go X_aa [.c refT] ⟨[(2,.ref 0 2 0),(4,.ref 0 4 0),(6,.ref 0 6 0),(13,.ref 0 13 0),(18,.d (.bool (ok))),(23,.d y15),(198,.d y132)],mT t c nl has i1 n1 b1 i2 n2 b2 sums sum⟩=some (resS (finR t ⟨c,nl,has,leaf i1 n1 x1,leaf i2 n2 x2,sums,sum⟩ ok).1 ((finR t ⟨c,nl,has,leaf i1 n1 x1,leaf i2 n2 x2,sums,sum⟩ ok).2:Int),[]):=by
 have k1:=ref14_Check_ans (leaf i1 n1 x1).size (leaf i1 n1 x1) t (z8 _) ((okV_eq _).2 ⟨hi1,by simp only[leaf,Va.b];omega,by simp[leaf,Va.kids],by simp[leaf,Va.kids,okVs]⟩) ⟨ho,fun k _=>trivial⟩
 have k2:=ref14_Check_ans (leaf i2 n2 x2).size (leaf i2 n2 x2) t (z8 _) ((okV_eq _).2 ⟨hi2,by simp only[leaf,Va.b];omega,by simp[leaf,Va.kids],by simp[leaf,Va.kids,okVs]⟩) ⟨ho,fun k _=>trivial⟩
 have f1:=(qi i1 n1 x1).symm;have f2:=(qi i2 n2 x2).symm;obtain⟨c1,g1⟩:=hb1;obtain⟨c2,g2⟩:=hb2;have e1:∀ t v,(rchkV t v !=0)=rbadL t v:=fun _ _=>rfl
 simp only[mT,boxT,dk,dx,List.cons_append,List.nil_append];cases ok with
 | false=>
  unfold finR resS;rw[if_pos zb];dsimp only;rw[sv0_d];simp(maxSteps:=2000000) (disch:=first|exact y7|fail) only[go_sem,X_aa,refT,c1,g1,c2,g2]
  rfl
 | true=>
  cases has with
  | false=>
   unfold finR resS;rw[if_neg zb];dsimp only;simp only[Sv.d,Sv.cs,leaf,Va.null,Va.i,Va.n,Va.b,Va.kids,List.map_nil];cases sums with
   |false=>simp(maxSteps:=2000000) (disch:=first|exact y7|fail) only[go_sem,X_aa,refT,c1,g1,c2,g2]
   |true=>simp(maxSteps:=2000000) (disch:=first|exact y7|fail) only[go_sem,X_aa,refT,c1,g1,c2,g2]
  | true=>
   rcases zf (rbadL t (leaf i1 n1 x1)) with q1|q1
   · unfold finR resS
     dsimp only;rw[if_pos (by rw[q1];rfl)]
     dsimp only;rw[sv0_d];simp(maxSteps:=2000000) (disch:=first|exact y7|fail) only[go_sem,X_aa,refT,c1,g1,c2,g2,f1,f2,k1,k2,e1,q1]
     rfl
   · rcases zf (rbadL t (leaf i2 n2 x2)) with q2|q2
     · unfold finR resS
       dsimp only;rw[if_pos (by rw[q1,q2];rfl)]
       dsimp only;rw[sv0_d];simp(maxSteps:=2000000) (disch:=first|exact y7|fail) only[go_sem,X_aa,refT,c1,g1,c2,g2,f1,f2,k1,k2,e1,q1,q2]
       rfl
     · unfold finR resS
       dsimp only;rw[if_neg (by rw[q1,q2];simp)]
       dsimp only;simp only[Sv.d,Sv.cs];cases sums with
       | false=>
        simp(maxSteps:=2000000) (disch:=first|exact y7|fail) only[go_sem,X_aa,refT,c1,g1,c2,g2,f1,f2,k1,k2,e1,q1,q2]
        rfl
       | true=>
        simp(maxSteps:=2000000) (disch:=first|exact y7|fail) only[go_sem,X_aa,refT,c1,g1,c2,g2,f1,f2,k1,k2,e1,q1,q2]
        rfl
theorem i9 (fs:List Fld) (hn:fs.length≤1000000) (hu:∀ f∈fs,f.u<18446744073709551616):
  evL cfg n_cu 0 [.d (.sl (fs.map Fld.d))] []=some (.d (.tup [.int .i64 (zI (lastM fs 1 0)),.int .i64 (zI (lastM fs 2 0)),.bool (lastM fs 1 0).isSome,.bool ((lastM fs 1 0).isSome==(lastM fs 2 0).isSome)]),[]):=by
 have h1:=e9 fs 1 hn hu;have h2:=e9 fs 2 hn hu;rw[show((1:Nat):Int)=1 from rfl] at h1
 rw[show((2:Nat):Int)=2 from rfl] at h2
 rw[o_cu];unfold zI;unfold intD at h1 h2;simp(disch:=first|exact y7|fail) only[go_sem,X_cu,c_cu,h1,h2]
theorem ax (fs:List Fld) (k:Nat) (hn:fs.length≤1000000) (hb:∀ f∈fs,f.b.length≤1000000):
  evL cfg n_bz 0 [.d (.sl (fs.map Fld.d)),.d (.int .i64 ((k:Int)))] []=some (match lastM fs k 2 with|none=> .d (.tup [.sl [],.bool false,.int .i64 0])|some f=> .d (.tup [.sl ((aa f.b).1.map Fld.d),.bool true,.int .i64 ((aa f.b).2:Int)]),[]):=by
 have ht:=ck fs k hn;rw[o_bz];unfold textD at ht;cases ho:lastM fs k 2 with
 | none=>
  rw[ho] at ht;simp(disch:=first|exact y7|fail) only[go_sem,X_bz,c_bz,ht]
 | some f=>
  have hp:=al f.b (hb f (fa _ _ ho));unfold cd at hp;rw[ho] at ht;simp only[Option.getD_some,Option.isSome_some] at ht;simp(disch:=first|exact y7|fail) only[go_sem,X_bz,c_bz,ht,hp]
