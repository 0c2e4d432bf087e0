import Derived.Test.YtpnhljhciibfnaaGreatDoorStY
import Derived.Test.YtpnhljhciibfnaaGreatDoorRdv
set_option linter.unusedSimpArgs false
namespace Go.Proofs.YtpnhljhciibfnaaGreatDoor
open Go Go.Ev
set_option maxHeartbeats 4000000
theorem dm {i n:Int} {x:List UInt8} (hi:inI i) (hx:x.length≤1000000):okV (leaf i n x):=
 (CA _).2 ⟨hi,by simp only[leaf,Va.b];omega,by simp[leaf,Va.kids],by simp[leaf,Va.kids,Eo]⟩
theorem ZO (k:Int) (sc:Nat) {fs:List Fld} (hu:∀ f∈fs,f.u<18446744073709551616) (hb:∀ f∈fs,f.b.length≤1000000):okV (leaf (BG k sc fs).i1 (BG k sc fs).n1 (BG k sc fs).x1)∧okV (leaf (BG k sc fs).i2 (BG k sc fs).n2 (BG k sc fs).x2):=by
 have z:=fun n=>Fm hu n 0
 have nil:([]:List UInt8).length≤1000000:=by simp
 unfold BG
 repeat' split
 · exact⟨dm (z 1) nil,dm (z 2) nil⟩
 · exact⟨dm in0 (ne hb 1 2),dm in0 (ne hb 2 2)⟩
 · exact⟨dm in0 nil,dm in0 nil⟩
 · exact⟨dm in0 nil,dm in0 nil⟩
 · exact⟨dm (Se _ _) nil,dm (Se _ _) nil⟩
 · exact⟨dm (z 1) nil,dm (z 2) nil⟩
 · exact⟨dm in0 nil,dm in0 nil⟩
 · exact⟨dm (z 1) nil,dm (z 2) nil⟩
theorem lg:okV va0:=dm (i:=0) (n:=0) (x:=[]) in0 aa3
theorem mA (t:Ty) (s:Sv) (ok:Bool) (h1:okV s.mn) (h2:okV s.mx):okV (FC t s ok).1.mn∧okV (FC t s ok).1.mx:=by
 unfold FC;split
 · exact⟨lg,lg⟩
 · exact⟨h1,h2⟩
theorem rd_ok (t:Ty) (sc:Nat) (b:List UInt8) (hl:b.length≤1000000):okV (rdM t sc b).1.mn∧okV (rdM t sc b).1.mx:=by
 unfold rdM;split
 · exact⟨lg,lg⟩
 split
 · exact⟨lg,lg⟩
 split
 · exact⟨lg,lg⟩
 · rename_i f hf
   split
   · exact⟨lg,lg⟩
   split
   · exact⟨lg,lg⟩
   have hfm:f∈(aa b).1:=by
     unfold Cg at hf;split at hf
     · cases hf
     · exact iw _ _ hf
   have h1:=(en b).1 f hfm;have h2:=(en f.b).1;obtain⟨q1,q2⟩:=ZO (AL t.kind) sc (zg f.b) (fun g hg=>by have:=h2 g hg;omega)
   exact mA _ _ _ q1 q2
theorem bg1 (k:Int) (sc:Nat) (hs:sc≤18) (s:Sv) (hk:k=5∨k=6):(Ae (Ah k sc s)).length≤400:=by
 have bl:=fun k v=>(cr k v).2
 have t1:=bt s.mn.i sc;have t2:=bt s.mx.i sc;have t3:=bt s.sum sc;have vl:=bu 10 s.sum.toNat;rcases hk with rfl|rfl
 · unfold Ah
   simp only[Int.reduceEq,↓reduceIte];split
   · show(ah 1 (Ai 10 s.sum.toNat)++[]).length≤400
     rw[List.append_nil];exact abo (bl _ _) aa1
   · simp[Ae]
 · unfold Ah
   simp only[Int.reduceEq,↓reduceIte];rw[kf,abk];have a:(Ae (if s.has=true then[.b 1 (Al s.mn.i sc),.b 2 (Al s.mx.i sc)] else[])).length≤200:=by
     split
     · show(ah 1 (Al s.mn.i sc)++(ah 2 (Al s.mx.i sc)++[])).length≤200
       rw[List.append_nil,abk];have:=bl 1 (Al s.mn.i sc);have:=bl 2 (Al s.mx.i sc);omega
     · simp[Ae]
   have b:(Ae (if s.AU=true then[.b 3 (Al s.sum sc)] else[])).length≤200:=by
     split
     · show(ah 3 (Al s.sum sc)++[]).length≤200
       rw[List.append_nil];have:=bl 3 (Al s.sum sc);omega
     · simp[Ae]
   omega
theorem awj (k:Int) (sc:Nat) (hs:sc≤18) (s:Sv) (h:Ip s):(Ae (Bc k sc s)).length≤24100:=by
 have hbl:=(qd k sc s h hs).2;rw[tj];have u1:=(bc 1 s.cnt.toNat).2;have b1:=(cr k.toNat (Ae (Ah k sc s))).2;have u2:=(bc 10 (if s.null=true then 1 else 0)).2
 split
 · rw[abk,abk];omega
 · rw[abk];omega
theorem bfw (t:Ty) (sc:Nat) (hs:sc≤18) (s:Sv) (h:cC t s) (hk:AL t.kind=5∨AL t.kind=6):∀ f,Cg (AL t.kind) (aa (Ae (Bc (AL t.kind) sc s))).1=some f→f.b.length≤2000:=by
 obtain⟨c1,c2⟩:=h.ok.cnt;have hsl:=awj (AL t.kind) sc hs s h.ok;have hbs:=bg1 (AL t.kind) sc hs s hk;obtain⟨fs,g1,g2⟩:=qt (Bc (AL t.kind) sc s) (fun x hx=>by
   unfold Bc at hx;simp only[List.cons_append,abr,ab1,ach,or_false] at hx;rcases hx with rfl|hx|rfl
   · simp only[Put.ok];omega
   · split at hx
     · rw[ab9] at hx
       subst hx;simp only[Put.ok];omega
     · cases hx
   · simp only[Put.ok];split<;>omega) aa1 (by unfold Bc;split<;>simp)
 intro f hf;rw[g1] at hf;have hfm:f∈fs:=by
   unfold Cg at hf;split at hf
   · cases hf
   · exact iw _ _ hf
 have hc:f.core∈(Bc (AL t.kind) sc s).map Put.core:=by rw[← g2];exact List.mem_map_of_mem hfm
 obtain⟨x,hx,e⟩:=ac0.1 hc;have eb:f.b=(x.fld 0).b:=by
   have:=congrArg (fun c:Nat×Nat×Nat×List UInt8=>c.2.2.2) e
   exact this.symm
 rw[eb];unfold Bc at hx;simp only[List.cons_append,abr,ab1,ach,or_false] at hx;rcases hx with rfl|hx|rfl
 · simp[Put.fld]
 · split at hx
   · rw[ab9] at hx
     subst hx;show(Ae (Ah (AL t.kind) sc s)).length≤2000;omega
   · cases hx
 · simp[Put.fld]
set_option maxHeartbeats 8000000
set_option maxRecDepth 10000
def nd0 (t:Ty):Nd:=⟨t.kind,(Ci 1 t.kids).map T8,t.names.map D.str,t.len,t.prec,t.scale.toNat,-1,1⟩
theorem nd0_d {t:Ty} (h:0≤t.scale):C5 t (Ci 1 t.kids) (-1) 1=(nd0 t).d:=by
 unfold C5 Nd.d nd0;rw[abs h]
theorem V0 {t:Ty} (h:0≤t.scale):(nd0 t).ty=bare t:=by
 unfold Nd.ty nd0 bare;rw[abs h]
theorem beqU (l:List UInt8):(l==l)=true:=beq_self_eq_true l
theorem aau (t:Ty) (s:Sv) (b:List UInt8) (ht:S7 t) (hsv:X8 s) (_:b.length≤maxLen):evL cfg Yn 0 [.d t.d,.d s.d,.d (.sl ((b).map AM))] []=some (.d (.bool (true)),[]):=by
 obtain⟨v1,v2,v3,v4⟩:=hsv;rw[o_al];have h1:=G0 t;cases hf:IP t with
 | false=>
  rw[hf] at h1;simp(maxSteps:=2000000) (disch:=first|exact aa0|fail) only[go_sem,UQ,Ib,py,h1,Sv.d,Sv.cs]
 | true=>
  rw[hf] at h1;have h2:=Fw t (bsw hf).2;rcases aa5 ((Bk 1 0 t).2 !=0) with x|x
  · simp(maxSteps:=2000000) (disch:=first|exact aa0|fail) only[go_sem,UQ,Ib,py,h1,h2,x,Sv.d,Sv.cs]
  · have h3:(Bk 1 0 t).2=0:=by simpa using x
    rw[h3] at h2;by_cases hn:b.length>500
    · have d_c:decide ((b.length:Int)>500)=true:=by simp<;>omega
      simp(maxSteps:=2000000) (disch:=first|exact aa0|fail) only[go_sem,UQ,Ib,py,h1,h2,abl,d_c,Sv.d,Sv.cs]
    have d_c:decide ((b.length:Int)>500)=false:=by simp<;>omega
    have ho:=(zw h3).1;obtain⟨_,_,_,_,hr⟩:=br6 ho;obtain⟨_,_,s0,s18⟩:=Vr hr;have hs:t.scale.toNat≤18:=aa1;have f1:=sg t (bsw hf).1 h3;rw[Gc,nd0_d s0] at f1;generalize jn (0+1) 0 (1+1) t.kids=rest at f1;have r1:=jm (nd0 t) b aa1 hs (fun _ f hf=>by
      have hfm:f∈(aa b).1:=by
       unfold Cg at hf;split at hf
       · cases hf
       · exact iw _ _ hf
      have:=(en b).1 f hfm;omega)
    have r2:=oe t t.scale.toNat (abs s0).symm hs ho b aa1;rw[V0 s0,show(nd0 t).scale=t.scale.toNat from rfl] at r1
    obtain⟨o1,o2⟩:=rd_ok (bare t) t.scale.toNat b aa1;have c1:=Xt (rdM (bare t) t.scale.toNat b).1;have c2:=Iq (rdM (bare t) t.scale.toNat b).1 o1 o2;generalize rdM (bare t) t.scale.toNat b=q at *;obtain⟨r,e1,e2⟩:=TB t s (fun m=>bex m t 1 0 h3) v1 v2
    have dc:=Xt s;have ds:=Iq s v1 v2;have nq:((q.2:Int) !=(q.2:Int))=false:=bne_self_eq_false _;have z0:decide (((rest.length+1:Nat):Int)=0)=false:=by simp;omega
    have z1:(((rest.length+1:Nat):Int)==0)=false:=by simp;omega
    unfold A6 at r1 r2;cases r with
    | false=>
      obtain⟨⟨qc,qn,qh,m1,m2,qs,qm⟩,qe⟩:=q;obtain⟨sc,sn,sh,w1,w2,ss,sm⟩:=s;unfold Sv.d Sv.cs at *;unfold Nd.d at f1 r1;dsimp only at r1 r2 c1 c2 nq e1;simp(maxSteps:=2000000) (disch:=first|exact aa0|fail) only[go_sem,UQ,Ib,py,h1,h2,d_c,f1,r1,r2,z1,nq,c1,c2,e1,Nd.d,abl,List.length_cons,List.take_succ_cons,List.take_zero]
    | true=>
      have bk:=bJ ho (e2 rfl) ((CA _).1 v1).1 ((CA _).1 v2).1 v3;have h5:AL t.kind=5→s.AU=true→0≤s.sum∧s.sum≤262144:=fun e=>(bk.k5 e).2
      have h9:AL t.kind=9→s.has=true→(0≤s.mn.n∧s.mn.n≤1000000000)∧0≤s.mx.n∧s.mx.n≤1000000000:=fun e q=>((bk.k9 e).2 q).2.2
      have p1:=qx (nd0 t) s bk.ok hs h5 h9;have p2:=pc t t.scale.toNat (abs s0).symm s bk.ok hs h5 h9;have hlen:=awj (AL t.kind) t.scale.toNat hs s bk.ok;have r3:=jm (nd0 t) (Ae (Bc (AL t.kind) t.scale.toNat s)) aa1 hs (fun hk=>bfw t t.scale.toNat hs s bk hk)
      rw[V0 s0,show(nd0 t).scale=t.scale.toNat from rfl,bh2 t t.scale.toNat hs s bk] at r3
      rw[show(nd0 t).kind=t.kind from rfl,show(nd0 t).scale=t.scale.toNat from rfl] at p1
      unfold A6 at r3;generalize Ae (Bc (AL t.kind) t.scale.toNat s)=cb at *;obtain⟨⟨qc,qn,qh,m1,m2,qs,qm⟩,qe⟩:=q;obtain⟨sc,sn,sh,w1,w2,ss,sm⟩:=s;unfold Sv.d Sv.cs at *;unfold Nd.d at f1 r1 p1 r3;dsimp only at r1 r2 r3 c1 c2 nq e1 p1 p2 dc ds;rw[show((0:Nat):Int)=0 from rfl] at r3
      simp(maxSteps:=2000000) (disch:=first|exact aa0|fail) only[go_sem,UQ,Ib,py,h1,h2,d_c,f1,r1,r2,r3,z1,nq,c1,c2,e1,p1,p2,dc,ds,Nd.d,abl,List.length_cons,List.take_succ_cons,List.take_zero,beqU]
end Go.Proofs.YtpnhljhciibfnaaGreatDoor
