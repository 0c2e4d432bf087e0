import Derived.Test.YtmeohcmbohicoaaGreatDoorFtP
namespace Go.Proofs.YtmeohcmbohicoaaGreatDoor
open Go Go.Ev
set_option maxHeartbeats 4000000
set_option maxRecDepth 100000
def ndsB (ns:List Nd):List UInt8:=(ns.map fun n=>av 4 (ndB n)).flatten
theorem i7 (n:Nd) (r:List Nd):ndsB (n::r)=av 4 (ndB n)++ndsB r:=rfl
theorem axz (ns:List (Nd×D×D×D)) (hn:ns.length≤100000) (ok:∀ n∈ns,NdOk n.1) (M:List (Cel×V)) (hM:settleM 0 M=M) (K:List Kf):∀ (r:List (Nd×D×D×D)) (i:Nat) (b:List UInt8),ns.drop i=r→i≤ns.length→(b++ndsB (r.map Prod.fst)).length≤500000→
  go X_ab (.c (.loop kf):: .b 0::K) ⟨roE ns i b,M⟩=go X_ab K ⟨roE ns ns.length (b++ndsB (r.map Prod.fst))++[(18,.d (.bool (false)))],M⟩
 | [],i,b,hr,hi,hb=>by
  have:=br hr;have:i=ns.length:=vn;subst this;have d_a:decide ((ns.length:Int)<ns.length)=false:=by simp<;>omega
  rw[go_loop,List.map_nil,show ndsB []=[] from rfl,List.append_nil]
  simp only[List.cons_append,List.nil_append];simp(disch:=first|exact vm|fail) only[go_sem,X_ab,d_a,ab,hM,vu]
 | n::r,i,b,hr,hi,hb=>by
  obtain⟨h1,h2,h3⟩:=cc hr;rw[List.map_cons,i7,← wh] at hb ⊢;have ih:=axz ns hn ok M hM K r (i+1) (b++av 4 (ndB n.1)) h3 h1 hb;refine Eq.trans ?_ ih;exact axy ns i n h2 h1 hn (ok n (List.mem_of_getElem? h2)) b (by simp only[v8] at hb;omega) _ (.inl rfl) M hM _
theorem kp (b:List UInt8) (t0 t1 t2 t3 t4 t5:D) (c0:t0.isCell=true) (c1:t1.isCell=true) (c2:t2.isCell=true) (c3:t3.isCell=true) (c4:t4.isCell=true) (c5:t5.isCell=true)
  (k0:t0.can=t0) (k1:t1.can=t1) (k2:t2.can=t2) (k3:t3.can=t3) (k4:t4.can=t4) (k5:t5.can=t5)
  (ns:List (Nd×D×D×D)) (hf:evL cfg n_bl 0 [.d (.agg [t0,t1,t2,t3,t4,t5])] []=some (.own false 9 (ns.map nodR),[])) (hn:ns.length≤100000) (h1:ns≠[]) (ok:∀ n∈ns,NdOk n.1) (hb:(b++ndsB (ns.map Prod.fst)).length≤500000):
  evL cfg n_ab 0 [.own false 1 (b.map byteD),.d (.agg [t0,t1,t2,t3,t4,t5])] []=some (.own false 1 ((b++ndsB (ns.map Prod.fst)).map byteD),[]):=by
 obtain⟨n,r,e⟩:∃ n r,ns=n::r:=by cases ns with
  |nil=>exact absurd rfl h1
  |cons n r=>exact⟨n,r,rfl⟩
 have hb':(b++av 4 (ndB n.1)++ndsB (r.map Prod.fst)).length≤500000:=by rw[e,List.map_cons,i7,← wh] at hb;exact hb
 have l0:=fun M hM K=>axy ns 0 n (by rw[e];rfl) (by rw[e];simp) hn (ok n (by rw[e];simp)) b (by simp only[v8] at hb;omega) (.own false 1 (b.map byteD)) (.inr rfl) M hM K
 have l:=fun M hM K=>axz ns hn ok M hM K r 1 (b++av 4 (ndB n.1)) (by rw[e];rfl) (by rw[e];simp) hb'
 have hq:b++ndsB (ns.map Prod.fst)=b++av 4 (ndB n.1)++ndsB (r.map Prod.fst):=by rw[e,List.map_cons,i7,← wh]
 rw[hq];have hne:b++av 4 (ndB n.1)++ndsB (r.map Prod.fst)≠[]:=by simp[afw]
 clear hb hb' hq e;generalize b++av 4 (ndB n.1)++ndsB (r.map Prod.fst)=q at *;simp only[roE] at l l0;rw[ownBy hne] at l;have fin:∀ M,leaveM 0 M=[]→settleM 0 M=M→go X_ab [.c (.seq ais .ret)] ⟨[(0,.own false 1 (q.map byteD)),(5,.d (.sl (ns.map nodR))),(6,.d (.int .i64 ((ns.length:Int)))),(18,.d (.bool (false)))],M⟩=some (.own false 1 (q.map byteD),[]):=by
  intro M h1 h2;simp(disch:=first|exact vm|fail) only[go_sem,X_ab,h1,h2]
 rw[show evL cfg n_ab 0 [.own false 1 (b.map byteD),.d (.agg [t0,t1,t2,t3,t4,t5])] []=go X_ab [.c c_ab] ⟨[(0,.own false 1 (b.map byteD)),(1,.d (.agg [t0,t1,t2,t3,t4,t5]))],[]⟩ from ap (fn:=i_ab) rfl rfl _ _ _ rfl rfl]
 simp(disch:=first|exact vm|fail) only[go_sem,X_ab,c_ab,len6,c0,c1,c2,c3,c4,c5,k0,k1,k2,k3,k4,k5,hf]
 exact(l0 _ rfl _).trans ((l _ rfl _).trans (fin _ rfl rfl))
theorem flat_ans (t:Ty) (hs:t.size≤1000):evL cfg n_c9 0 [.d .nilS,.d t.d,.d (.int .i64 (-1)),.d (.int .i64 (1))] []=some (.own false 9 ((flatR 0 (-1) 1 t).map sigD),[]):=by
 refine az (n:=1) ?_;have hx:cfg.ext n_c9=some xFlat:=rfl;simp only[evFn,hx,allD,Option.map_some,Option.bind_some,xFlat,tyOf_d 1000 t hs];rw[if_pos ⟨by omega,by omega,by omega,by omega⟩]
 rfl
