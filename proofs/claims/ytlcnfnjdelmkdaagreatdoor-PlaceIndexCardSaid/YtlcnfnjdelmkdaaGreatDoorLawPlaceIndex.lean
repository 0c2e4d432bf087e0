import Derived.Test.YtlcnfnjdelmkdaaGreatDoorIxD
import Derived.Test.YtlcnfnjdelmkdaaGreatDoorRdt
namespace Go.Proofs.YtlcnfnjdelmkdaaGreatDoor
open Go Go.Ev
set_option maxHeartbeats 8000000
set_option maxRecDepth 10000
abbrev l1E (cs:List UInt8) (x:D) (l:List Sv) (i:Nat):List (Nat×V):=[(2,.d (.sl ((cs).map byteD))),(3,.ref 0 3 0),(7,.d x),(8,.d (.sl (l.map Sv.d))),(10,.d (.sl (l.map Sv.d))),(12,.d (.int .i64 ((i:Int))))]
theorem am6 (t:Ty) (cs:List UInt8) (x:List D) (l:List Sv) (hl:l.length≤4096) (ok:∀ s∈l,okS s) (K:List Kf):∀ (r:List Sv) (i:Nat),l.drop i=r→i≤l.length→
  go X_ab (.c (.loop av6):: .b 0::K) ⟨l1E cs (.sl x) l i,boxT 3 t⟩=
   go X_ab K ⟨l1E cs (.sl x) l l.length++[(72,.d (.bool (false)))],boxT 3 t⟩
 | [],i,hr,hi=>by
  have:=bd hr;have:i=l.length:=y8;subst this;have d_a:decide ((l.length:Int)<l.length)=false:=by simp<;>omega
  rw[go_loop];unfold l1E;simp only[boxT,List.cons_append,List.nil_append];simp(maxSteps:=2000000) (disch:=first|exact y7|fail) only[go_sem,X_ab,d_a,zj]
 | s::r,i,hr,hi=>by
  obtain⟨h1,h2,h3⟩:=cc hr;have ih:=am6 t cs x l hl ok K r (i+1) h3 h1;obtain⟨o1,o2⟩:=ok s (List.mem_of_getElem? h2);have c1:=Of_ans s;have c2:=Same_ans s o1 o2;have d_a:decide ((i:Int)<l.length)=true:=by simp<;>omega
  rw[← ih,go_loop];unfold l1E;rw[show(((i+1:Nat)):Int)=(i:Int)+1 by omega]
  obtain⟨sc,sn,sh,w1,w2,ss,sm⟩:=s;unfold Sv.d Sv.cs at c1 c2;simp only[boxT];simp(maxSteps:=2000000) (disch:=first|exact y7|fail) only[go_sem,X_ab,d_a,ae,zx,zy,zj,h2,Option.map_some,c1,c2,Sv.d,Sv.cs,tk15,ln15]
theorem cS_d (c:UInt8):(cS c).d= .agg [.int .i64 (c.toNat:Int),.bool (c.toNat % 2 !=0),.bool false,.bool false,.int .i64 0,.int .i64 0,.sl [],.sl [],.bool false,.int .i64 0,.int .i64 0,.sl [],.sl [],.bool false,.int .i64 0]:=rfl
theorem cls_mod (c:UInt8):((c.toNat:Int)).tmod 2=((c.toNat % 2:Nat):Int):=by rw[tmp y8];omega
abbrev l2E (cs:List UInt8) (x:D) (acc:List UInt8) (i:Nat):List (Nat×V):=[(2,.d (.sl ((cs).map byteD))),(3,.ref 0 3 0),(7,.d x),(13,ownZ 15 ((acc.map cS).map Sv.d)),(14,ownZ 15 ((acc.map cS).map Sv.d)),(15,.d (.int .i64 ((i:Int))))]
theorem am5 (t:Ty) (cs:List UInt8) (x:List D) (hn:cs.length≤100) (K:List Kf):∀ (r:List UInt8) (i:Nat) (acc:List UInt8),cs.drop i=r→i≤cs.length→acc.length=i→
  go X_ab (.c (.loop av5):: .b 2::K) ⟨l2E cs (.sl x) acc i,boxT 3 t⟩=
   go X_ab K ⟨l2E cs (.sl x) (acc++r) cs.length++[(89,.d (.bool (false)))],boxT 3 t⟩
 | [],i,acc,hr,hi,ha=>by
  have:=bd hr;have:i=cs.length:=y8;subst this;have d_a:decide ((cs.length:Int)<cs.length)=false:=by simp<;>omega
  rw[go_loop,List.append_nil];unfold l2E;simp only[boxT,List.cons_append,List.nil_append];simp(maxSteps:=2000000) (disch:=first|exact y7|fail) only[go_sem,X_ab,d_a,zj,ap]
 | c::r,i,acc,hr,hi,ha=>by
  obtain⟨h1,h2,h3⟩:=cc hr;have ih:=am5 t cs x hn K r (i+1) (acc++[c]) h3 h1 (by simp;omega)
  rw[aad,List.singleton_append] at ih;have hc:=c.toNat_lt;have c1:=Of_ans (cS c);have d_a:decide ((i:Int)<cs.length)=true:=by simp<;>omega
  rw[← ih,go_loop];unfold l2E;rw[show(((i+1:Nat)):Int)=(i:Int)+1 by omega]
  rw[List.map_append,List.map_cons,List.map_nil,ownS];have e1:=cls_mod c;have hbd:byteD c= .int .u8 (c.toNat:Int):=rfl;have e2:(((c.toNat % 2:Nat):Int)==1)=(c.toNat % 2 !=0):=by
   rcases abf c.toNat with m|m<;>rw[m]<;>rfl
  have e3:((acc.map cS).map Sv.d++[(cS c).d])[i]? =some (cS c).d:=by
   rw[List.getElem?_append_right (by simp;omega)]
   simp[ha]
  rw[cS_d] at c1 e3;simp only[boxT];cases acc with
  | nil=>
   have hz:i=0:=ha.symm;subst hz;rw[show((0:Nat):Int)=0 from rfl] at*
   have hb0:=fun(g:Get) (dst:Option Nat) (z:Nat) (x:IOpd) (loc:Ev.Loc)=>evIdx_bor (g:=g) (dst:=dst) (z:=z) (x:=x) loc 0 1 (n:=0) y8 y8
   simp(maxSteps:=2000000) (disch:=first|exact y7|fail) only[go_sem,X_ab,d_a,hb0,Int.toNat_zero,Nat.add_zero,List.getElem?_cons_zero,ae,zx,zy,h2,Option.map_some,hbd,d7,az,e1,e2,List.map_nil,ai,c1,cS_d,tk15,ln15]
  | cons y acc=>
   simp only[List.length_cons] at ha;simp only[List.map_cons,List.cons_append] at e3;rw[List.map_cons,List.map_cons];generalize(cS y).d=w at *;simp(maxSteps:=2000000) (disch:=first|exact y7|fail) only[go_sem,X_ab,d_a,ae,zx,zy,h2,Option.map_some,hbd,d7,az,e1,e2,e3,am,zj,c1,cS_d,tk15,ln15]
abbrev l3E (cs:List UInt8) (s:V) (i:Nat):List (Nat×V):=[(13,s),(17,.d (.sl ((cs.map cS).map Sv.d))),(19,.d (.int .i64 ((i:Int))))]
theorem am4 (t:Ty) (cs:List UInt8) (hn:cs.length≤100) (K:List Kf):∀ (r:List UInt8) (i:Nat),cs.drop i=r→i≤cs.length→
  go X_ab (.c (.loop av4):: .b 4::K) ⟨l3E cs (.d (.sl ((cs.map cS).map Sv.d))) i,boxT 3 t⟩=
   go X_ab K ⟨l3E cs (.d (.sl ((cs.map cS).map Sv.d))) cs.length++[(149,.d (.bool (false)))],boxT 3 t⟩
 | [],i,hr,hi=>by
  have:=bd hr;have:i=cs.length:=y8;subst this;have d_a:decide ((cs.length:Int)<cs.length)=false:=by simp<;>omega
  rw[go_loop];unfold l3E;simp only[boxT,List.cons_append,List.nil_append];simp(maxSteps:=2000000) (disch:=first|exact y7|fail) only[go_sem,X_ab,d_a,zj]
 | c::r,i,hr,hi=>by
  obtain⟨h1,h2,h3⟩:=cc hr;have ih:=am4 t cs hn K r (i+1) h3 h1;have c1:=aog c;have d_a:decide ((i:Int)<cs.length)=true:=by simp<;>omega
  rw[← ih,go_loop];unfold l3E;rw[show(((i+1:Nat)):Int)=(i:Int)+1 by omega]
  rw[cS_d] at c1;simp only[boxT];simp(maxSteps:=2000000) (disch:=first|exact y7|fail) only[go_sem,X_ab,d_a,ae,zx,zy,zj,h2,Option.map_some,c1,cS_d,tk15,ln15]
set_option maxRecDepth 10000
def nd0 (t:Ty):Nd:=⟨t.kind,(kidAt 1 t.kids).map intN,t.names.map D.str,t.len,t.prec,t.scale.toNat,-1,1⟩
theorem nd0_d {t:Ty} (h:0≤t.scale):nodT t (kidAt 1 t.kids) (-1) 1=(nd0 t).d:=by
 unfold nodT Nd.d nd0;rw[aas h]
theorem nd0_ty {t:Ty} (h:0≤t.scale):(nd0 t).ty=bare t:=by
 unfold Nd.ty nd0 bare;rw[aas h]
theorem aoe (cs:List UInt8):cs=[]∨(ownZ 15 ((cs.map cS).map Sv.d)= .own false 15 ((cs.map cS).map Sv.d)∧accV (putB (cs.map cG))= .d (.sl ((putB (cs.map cG)).map byteD))∧ownZ 1 ((putB (cs.map cG)).map byteD)= .own false 1 ((putB (cs.map cG)).map byteD)):=by
 cases cs with
 |nil=>exact .inl rfl
 | cons c r=>
  refine .inr ⟨rfl,?_,?_⟩
  all_goals
   rw[List.map_cons,kw];have:=(cG c).pos;cases hx:(cG c).bytes++putB (r.map cG) with
   |nil=>simp at hx;rw[hx.1] at this;simp at this
   |cons y q=>rfl
theorem anh (cs:List UInt8) (h:cs.length≤100):∀ g∈(aa (putB (cs.map cG))).1,g.b.length≤2000:=by
 have hl:=auv cs;obtain⟨fs,h1,h2⟩:=ma (cs.map cG) (by
  intro x hx;obtain⟨c,_,rfl⟩:=aa7.1 hx;simp only[cG,Put.ok];omega) y8 (by simp;omega)
 rw[h1];intro g hg;have hm:g.core∈(cs.map cG).map Put.core:=h2 ▸ aa7.2 ⟨g,hg,rfl⟩;obtain⟨p,hp,e⟩:=aa7.1 hm;obtain⟨c,_,rfl⟩:=aa7.1 hp;have hb:g.b=putB [Put.b 2 (putB (cP c))]:=(congrArg (fun q:Nat×Nat×Nat×List UInt8=>q.2.2.2) e).symm
 have:=g_len c;rw[hb];omega
theorem we (t:Ty) (b cs:List UInt8) (ht:tyIn t) (_:b.length≤maxLen) (_:cs.length≤maxLen):evL cfg n_ab 0 [.d t.d,.d (.sl ((b).map byteD)),.d (.sl ((cs).map byteD))] []=some (.d (.bool (true)),[]):=by
 rw[o_ab];have h1:=law13_Few_ans t;cases hf:fewTB t with
 | false=>
  rw[hf] at h1;simp(maxSteps:=2000000) (disch:=first|exact y7|fail) only[go_sem,X_ab,c_ab,oz,h1]
 | true=>
  rw[hf] at h1;have h2:=ref13_Check_ans t (bsr hf).2;rcases zf ((chkT 1 0 t).2 !=0) with x|x
  · simp(maxSteps:=2000000) (disch:=first|exact y7|fail) only[go_sem,X_ab,c_ab,oz,h1,h2,x]
  · have h3:(chkT 1 0 t).2=0:=by simpa using x
    rw[h3] at h2;by_cases hn:b.length>2000
    · have d_c:decide ((b.length:Int)>2000)=true:=by simp<;>omega
      simp(maxSteps:=2000000) (disch:=first|exact y7|fail) only[go_sem,X_ab,c_ab,oz,h1,h2,zj,d_c]
    have d_c:decide ((b.length:Int)>2000)=false:=by simp<;>omega
    by_cases hm:cs.length>100
    · have d_e:decide ((cs.length:Int)>100)=true:=by simp<;>omega
      simp(maxSteps:=2000000) (disch:=first|exact y7|fail) only[go_sem,X_ab,c_ab,oz,h1,h2,zj,d_c,d_e]
    have d_e:decide ((cs.length:Int)>100)=false:=by simp<;>omega
    have ho:=(chk_kids h3).1;obtain⟨_,_,_,_,hr⟩:=own_all ho;obtain⟨_,_,s0,s18⟩:=own_rest hr;have hs:t.scale.toNat≤18:=y8;have f1:=qo t (bsr hf).1 h3;rw[flatT_eq,nd0_d s0] at f1;generalize i4 (0+1) 0 (1+1) t.kids=rest at f1;have hpl:=auv cs;have r1:=gm (nd0 t) b y8 hs (fun g hg=>by have:=(bo b).1 g hg;omega)
    have r2:=m7 t t.scale.toNat (aas s0).symm hs ho b y8;have r3:=gm (nd0 t) (putB (cs.map cG)) y8 hs (anh cs y8);have p1:=nx (nd0 t) cs y8;have p2:=n9 t cs y8;rw[nd0_ty s0,show(nd0 t).scale=t.scale.toNat from rfl] at r1 r3
    rw[read_c (bare t) _ cs y8] at r3;obtain⟨o1,o2⟩:=read_ok (bare t) t.scale.toNat b y8;generalize readI (bare t) t.scale.toNat b=q at *;obtain⟨l,er⟩:=q;have l1:=fun K=>am6 t cs ((nd0 t).d::rest) l o2 o1 K l 0 rfl (aaj _)
    have l2:=fun K=>am5 t cs ((nd0 t).d::rest) y8 K cs 0 [] rfl (aaj _) rfl
    have l3:=fun K=>am4 t cs y8 K cs 0 rfl (aaj _)
    have nq:((er:Int) !=(er:Int))=false:=bne_self_eq_false _;have nl:((l.length:Int) !=(l.length:Int))=false:=bne_self_eq_false _;have z1:(((rest.length+1:Nat):Int)==0)=false:=by simp;omega
    unfold resI at r1 r2 r3;unfold l1E at l1;unfold l2E at l2;unfold l3E at l3;simp only[boxT,List.cons_append,List.nil_append,List.map_nil,ai] at l1 l2 l3;unfold Nd.d at f1 r1 p1 r3 l1 l2;dsimp only at r1 r2 r3 nq;simp(maxSteps:=2000000) (disch:=first|exact y7|fail) only[go_sem,X_ab,c_ab,oz,h1,h2,d_c,d_e,f1,r1,r2,z1,nq,nl,zj,List.length_cons,List.take_succ_cons,List.take_zero]
    refine(l1 _).trans ?_;simp(maxSteps:=2000000) (disch:=first|exact y7|fail) only[go_sem,X_ab]
    refine(l2 _).trans ?_;rcases aoe cs with rfl|⟨g1,g2,g3⟩
    · have k1:accV (putB (([]:List UInt8).map cG))= .d .nilS:=rfl
      have k2:ownZ 1 ((putB (([]:List UInt8).map cG)).map byteD)= .d .nilS:=rfl;rw[k1] at p1;rw[k2] at p2;simp only[List.map_nil,show putB []=[] from rfl] at p1 p2 r3 l3 ⊢
      simp(maxSteps:=2000000) (disch:=first|exact y7|fail) only[go_sem,X_ab,ai,p1,p2,r3,zj,List.length_cons,List.take_succ_cons,List.take_zero]
      have z0:decide ((0:Int)<0)=false:=rfl;rw[go_loop];simp(maxSteps:=2000000) (disch:=first|exact y7|fail) only[go_sem,X_ab,z0,List.length_nil]
    · rw[g1]
      rw[g2] at p1;rw[g3] at p2;have nb:(putB (cs.map cG) !=putB (cs.map cG))=false:=bne_self_eq_false _;have nc:(((cs.map cS).length:Int) !=((cs.map cS).length:Int))=false:=bne_self_eq_false _;have nd:((cs.length:Int) !=(cs.length:Int))=false:=bne_self_eq_false _;simp(maxSteps:=2000000) (disch:=first|exact y7|fail) only[go_sem,X_ab,p1,p2,r3,nb,nc,nd,zj,List.length_cons,List.take_succ_cons,List.take_zero]
      refine(l3 _).trans ?_;simp(maxSteps:=2000000) (disch:=first|exact y7|fail) only[go_sem,X_ab]
