import Derived.Test.YtlcnfnjdelmkdaaGreatDoorTyE
import Derived.Test.YtlcnfnjdelmkdaaGreatDoorStX
namespace Go.Proofs.YtlcnfnjdelmkdaaGreatDoor
open Go Go.Ev
set_option maxHeartbeats 4000000
theorem be4:∀ (m:Nat) (t:Ty) (deep:Nat) (n:Int),t.size≤m→(chkT deep n t).2=0→(chkT deep n t).1=n+t.size
 |0,t,_,_,h,_=>by have:=t.size_pos;omega
 | m+1,t,deep,n,h,hc=>by
  have key:∀ (l:List Ty) (n:Int),(∀ k∈l,k.size≤m)→(chkTs (deep+1) n l).2=0→(chkTs (deep+1) n l).1=n+Ty.sizes l:=by
    intro l
    induction l with
    |nil=>intro n _ _;rw[chkTs_nil,Ty.sizes];simp
    | cons k r ih=>
     intro n hk hz;rw[chkTs_cons] at hz ⊢;by_cases hx:((chkT (deep+1) n k).2 !=0)=true
     · rw[if_pos hx] at hz
       rw[hz] at hx;simp at hx
     · rw[if_neg hx] at hz ⊢
       have h0:(chkT (deep+1) n k).2=0:=by simpa using hx
       have h1:=be4 m k (deep+1) n (hk k zb) h0;have h2:=ih _ (fun x hx=>hk x (by simp[hx])) hz
       rw[h2,h1,Ty.sizes];omega
  rw[chkT_eq] at hc ⊢;by_cases h1:(decide ((deep:Int)>16)||decide (n≥100))=true
  · rw[if_pos h1] at hc;simp at hc
  rw[if_neg h1] at hc ⊢;by_cases h2:(ownM t !=0)=true
  · rw[if_pos h2] at hc
    simp only at hc;rw[hc] at h2;simp at h2
  rw[if_neg h2] at hc ⊢;rw[key t.kids (n+1) (fun k hk=>by have:=Ty.size_kid hk;omega) hc,t.size_eq];omega
theorem chk_few {t:Ty} (h:(chkT 1 0 t).2=0):t.size≤100:=by
 have h1:=be4 _ t 1 0 (z8 _) h;have h2:=(chkT_le _ t 1 0 (z8 _) y8).2;omega
theorem qo (t:Ty) (hs:fewK t.size t) (h:(chkT 1 0 t).2=0):evL cfg n_dg 0 [.d t.d] []=some (.d (.sl (flatT 0 (-1) 1 t)),[]):=by
 have hz:=chk_few h;have h1:=rk t hs;have h2:=types_flatten_ans t.size t [] (-1) 1 (z8 _) hs (by unfold inI;omega) y8 (by simp;omega)
 rw[h] at h1;rw[ai,List.nil_append,List.length_nil] at h2;rw[o_dg];have hne:flatT 0 (-1) 1 t≠[]:=by rw[flatT_eq];simp
 generalize flatT 0 (-1) 1 t=q at *;simp(disch:=first|exact y7|fail) only[go_sem,X_dg,c_dg,h1,h2]
theorem chk_kids {t:Ty} {deep:Nat} {n:Int} (h:(chkT deep n t).2=0):ownM t=0∧∀ k∈t.kids,∃ n',(chkT (deep+1) n' k).2=0:=by
 have key:∀ (l:List Ty) (n:Int),(chkTs (deep+1) n l).2=0→∀ k∈l,∃ n',(chkT (deep+1) n' k).2=0:=by
   intro l
   induction l with
   |nil=>intro n _ k hk;cases hk
   | cons y r ih=>
    intro n hz k hk;rw[chkTs_cons] at hz;by_cases hx:((chkT (deep+1) n y).2 !=0)=true
    · rw[if_pos hx] at hz
      rw[hz] at hx;simp at hx
    · rw[if_neg hx] at hz
      rcases aac.1 hk with rfl|hk
      · exact⟨n,by simpa using hx⟩
      · exact ih _ hz k hk
 rw[chkT_eq] at h;by_cases h1:(decide ((deep:Int)>16)||decide (n≥100))=true
 · rw[if_pos h1] at h;simp at h
 rw[if_neg h1] at h;by_cases h2:(ownM t !=0)=true
 · rw[if_pos h2] at h
   simp only at h;rw[h] at h2;simp at h2
 rw[if_neg h2] at h;exact⟨by simpa using h2,key _ _ h⟩
theorem own_all {t:Ty} (h:ownM t=0):(0≤t.kind∧t.kind≤17)∧sg t=true∧(t.kind≠12→t.names=[])∧j7 t.names 0 t.names=true∧restT t=0:=by
 unfold ownM at h;split at h
 · cases h
 split at h
 · cases h
 rename_i h1;split at h
 · cases h
 rename_i h2;split at h
 · rename_i h3
   simp only[aan,zm,not_or] at h1;simp only[aan,zw,zk,zm,not_or,not_and,bne_iff_ne,ne_eq,zq] at h2;refine⟨⟨by omega,by omega⟩,h2.1,fun hk=> ?_,h3,h⟩
   have:=h2.2 hk;exact aa2 y8
 · cases h
theorem own_rest {t:Ty} (h:restT t=0):(0≤t.len∧t.len≤4096)∧(0≤t.prec∧t.prec≤18)∧(0≤t.scale∧t.scale≤18):=by
 unfold restT at h;split at h
 · cases h
 rename_i h1;have hl:0≤t.len∧t.len≤4096:=by
   by_cases hk:(t.kind==16||t.kind==17)=true
   · rw[hk] at h1
     simp at h1;omega
   · rw[zu] at hk
     rw[hk] at h1;simp at h1;omega
 split at h
 · split at h
   · cases h
   · rename_i h2
     simp at h2;exact⟨hl,by omega,by omega⟩
 · split at h
   · cases h
   · rename_i h2
     simp at h2;exact⟨hl,by omega,by omega⟩
theorem few_K:∀ (m:Nat) (t:Ty) (deep:Nat),fewT deep t<1000→fewK m t
 |0,_,_,_=>trivial
 | m+1,t,deep,h=>by
  have key:∀ (r:List Ty) (n:Int),fewTs (deep+1) n r<1000→∀ k∈r,fewT (deep+1) k<1000∨n<0:=by
    intro r
    induction r with
    |nil=>intro n _ k hk;cases hk
    | cons y r ih=>
      intro n h k hk;rw[fewTs_cons] at h;have hb:=fewT_bd _ y (deep+1) (z8 _);split at h
      · omega
      · rename_i hc
        simp only[zm] at hc;rcases aac.1 hk with rfl|hk
        · by_cases hn:n<0
          · exact .inr hn
          · left
            by_cases hl:fewT (deep+1) k<1000
            · exact hl
            · exfalso
              have:∀ (r:List Ty) (n:Int),1000≤n→¬ fewTs (deep+1) n r<1000:=by
               intro r
               induction r with
               |nil=>intro n hn h;rw[fewTs_nil] at h;omega
               | cons y r ih2=>
                intro n hn h;rw[fewTs_cons] at h;have hb:=fewT_bd _ y (deep+1) (z8 _);split at h
                · omega
                · exact ih2 _ y8 h
              exact this r _ y8 h
        · rcases ih _ h k hk with h1|h1
          · exact .inl h1
          · right;omega
  rw[fewT_eq] at h;split at h
  · omega
  · rename_i hc
    simp only[aan,zm,not_or] at hc;split at h
    · omega
    · refine⟨by omega,by omega,fun k hk=>few_K m k (deep+1) ?_⟩
      rcases key t.kids 1 h k hk with h1|h1
      · exact h1
      · omega
theorem vm:∀ (m:Nat) (t:Ty),fewK m t→smallT m t
 |0,_,_=>trivial
 |m+1,t,⟨a,b,c⟩=>⟨by omega,by omega,fun k hk=>vm m k (c k hk)⟩
theorem bsr {t:Ty} (h:fewTB t=true):fewK t.size t∧smallT t.size t:=by
 have h1:fewT 1 t≤150:=by simpa[fewTB] using h
 have:=few_K t.size t 1 y8;exact⟨this,vm _ _ this⟩
theorem cw {i n:Int} {x:List UInt8} (hi:inI i) (hx:x.length≤1000000):okV (leaf i n x):=
 (okV_eq _).2 ⟨hi,by simp only[leaf,Va.b];omega,by simp[leaf,Va.kids],by simp[leaf,Va.kids,okVs]⟩
theorem fill_ok (k:Int) (sc:Nat) {fs:List Fld} (hu:∀ f∈fs,f.u<18446744073709551616) (hb:∀ f∈fs,f.b.length≤1000000):okV (leaf (fillM k sc fs).i1 (fillM k sc fs).n1 (fillM k sc fs).x1)∧okV (leaf (fillM k sc fs).i2 (fillM k sc fs).n2 (fillM k sc fs).x2):=by
 have z:=fun n=>zI_in hu n 0
 have nil:([]:List UInt8).length≤1000000:=by simp
 unfold fillM
 repeat' split
 · exact⟨cw (z 1) nil,cw (z 2) nil⟩
 · exact⟨cw in0 (mc hb 1 2),cw in0 (mc hb 2 2)⟩
 · exact⟨cw in0 nil,cw in0 nil⟩
 · exact⟨cw in0 nil,cw in0 nil⟩
 · exact⟨cw (xI_in _ _) nil,cw (xI_in _ _) nil⟩
 · exact⟨cw (z 1) nil,cw (z 2) nil⟩
 · exact⟨cw in0 nil,cw in0 nil⟩
 · exact⟨cw (z 1) nil,cw (z 2) nil⟩
theorem j6:okV va0:=cw (i:=0) (n:=0) (x:=[]) in0 zb
theorem fin_ok (t:Ty) (s:Sv) (ok:Bool) (h1:okV s.mn) (h2:okV s.mx):okV (finS t s ok).1.mn∧okV (finS t s ok).1.mx:=by
 unfold finS;split
 · exact⟨j6,j6⟩
 · exact⟨h1,h2⟩
theorem rd_ok (t:Ty) (sc:Nat) (b:List UInt8) (hl:b.length≤1000000):okV (rdM t sc b).1.mn∧okV (rdM t sc b).1.mx:=by
 unfold rdM;split
 · exact⟨j6,j6⟩
 split
 · exact⟨j6,j6⟩
 split
 · exact⟨j6,j6⟩
 · rename_i f hf
   split
   · exact⟨j6,j6⟩
   split
   · exact⟨j6,j6⟩
   have hfm:f∈(aa b).1:=by
     unfold partF at hf;split at hf
     · cases hf
     · exact fa _ _ hf
   have h1:=(bo b).1 f hfm;have h2:=(bo f.b).1;obtain⟨q1,q2⟩:=fill_ok (partM t.kind) sc (xf f.b) (fun g hg=>by have:=h2 g hg;omega)
   exact fin_ok _ _ _ q1 q2
def idxM (t:Ty) (sc:Nat):List Fld→List Sv→List Sv×Nat
 | [],acc=>(acc,0)
 | g::r,acc=>
  if(aa g.b).2≠0 then([],(aa g.b).2)
  else match lastM (aa g.b).1 2 2 with
   |none=>([],2)
   |some f=>if(rdM t sc f.b).2≠0 then([],(rdM t sc f.b).2) else idxM t sc r (acc++[(rdM t sc f.b).1])
def readI (t:Ty) (sc:Nat) (b:List UInt8):List Sv×Nat:=if(aa b).2≠0 then([],(aa b).2) else idxM t sc (allM (aa b).1 1) []
def resI (r:List Sv×Nat):V:= .d (.tup [.sl (r.1.map Sv.d),.int .i64 (r.2:Int)])
def okS (s:Sv):Prop:=okV s.mn∧okV s.mx
theorem idx_ok (t:Ty) (sc:Nat):∀ (gs:List Fld) (acc:List Sv),(∀ g∈gs,g.b.length≤1000000)→(∀ s∈acc,okS s)→∀ s∈(idxM t sc gs acc).1,okS s
 | [],acc,_,h=>h
 | g::r,acc,hb,h=>by
  have g1:=(bo g.b).1;have g0:=hb g zb;unfold idxM;split
  · intro s hs;cases hs
  split
  · intro s hs;cases hs
  rename_i f hf;have hfm:=fa _ _ hf;have:=g1 f hfm;split
  · intro s hs;cases hs
  · refine idx_ok t sc r _ (fun x hx=>hb x (by simp[hx])) fun s hs=> ?_
    rcases aa3.1 hs with hs|hs
    · exact h s hs
    · rw[aa1] at hs
      subst hs;exact rd_ok t sc f.b y8
theorem au5 (t:Ty) (sc:Nat):∀ (gs:List Fld) (acc:List Sv),(idxM t sc gs acc).1.length≤acc.length+gs.length
 | [],acc=>by simp[idxM]
 | g::r,acc=>by
  unfold idxM;split
  · simp
  split
  · simp
  split
  · simp
  · have:=au5 t sc r (acc++[(rdM t sc (by assumption:Fld).b).1])
    simp only[aae,List.length_cons,List.length_nil] at this ⊢;refine aai (au5 t sc r _) ?_;simp only[aae,List.length_cons,List.length_nil];omega
theorem read_ok (t:Ty) (sc:Nat) (b:List UInt8) (hl:b.length≤1000000):(∀ s∈(readI t sc b).1,okS s)∧(readI t sc b).1.length≤4096:=by
 obtain⟨p1,p2⟩:=bo b;have hall:(allM (aa b).1 1).length≤4096:=aai (List.length_filter_le _ _) p2;unfold readI;split
 · exact⟨fun s hs=>(by cases hs),by simp⟩
 · refine⟨idx_ok t sc _ [] (fun g hg=> ?_) (fun s hs=>by cases hs),?_⟩
   · have:=p1 g (abb.1 hg).1
     omega
   · have:=au5 t sc (allM (aa b).1 1) []
     simp only[List.length_nil] at this;omega
def cP (c:UInt8):List Put:=[.u 1 c.toNat,.u 10 (c.toNat % 2)]
def cG (c:UInt8):Put:= .b 1 (putB [.b 2 (putB (cP c))])
def cS (c:UInt8):Sv:=⟨(c.toNat:Int),c.toNat % 2 !=0,false,va0,va0,false,0⟩
theorem c_len (c:UInt8):(putB (cP c)).length≤40:=by
 have:=qx (cP c) 20 (fun x hx=>by
  simp only[cP,aac,aa5,or_false] at hx;rcases hx with rfl|rfl<;>exact(nu _ _).2)
 simpa[cP] using this
theorem g_len (c:UInt8):(putB [Put.b 2 (putB (cP c))]).length≤60:=by
 have:=qx [Put.b 2 (putB (cP c))] 60 (fun x hx=>by
  rw[aa1] at hx;subst hx;have:=(qa 2 (putB (cP c))).2;have:=c_len c;show(ct 2 (putB (cP c))).length≤60;omega)
 simpa using this
theorem btk (c:UInt8):(cG c).bytes.length≤80:=by
 have:=(qa 1 (putB [Put.b 2 (putB (cP c))])).2;have:=g_len c;show(ct 1 _).length≤80;omega
theorem uz {fs fs':List Fld} (h:fs.map Fld.core=fs'.map Fld.core) (n w:Nat):(lastM fs n w).map Fld.core=(lastM fs' n w).map Fld.core:=by
 have e:∀ fs:List Fld,(lastM fs n w).map Fld.core=(fs.map Fld.core).reverse.find? fun c=>c.1==n&&c.2.1==w:=by
  intro fs;unfold lastM;rw[← List.map_reverse,List.find?_map];rfl
 rw[e,e,h]
theorem fld_core (xs:List Put):(xs.map fun x=>x.fld 0).map Fld.core=xs.map Put.core:=by rw[List.map_map];rfl
theorem rd_c (t:Ty) (sc:Nat) (c:UInt8):rdM t sc (putB (cP c))=(cS c,0):=by
 have hc:=c.toNat_lt;obtain⟨fs,h1,h2⟩:=ma (cP c) (by
  intro x hx;simp only[cP,aac,aa5,or_false] at hx;rcases hx with rfl|rfl<;>simp only[Put.ok]<;>omega) (by have:=c_len c;omega) (by simp[cP])
 have u1:uM fs 1=c.toNat:=by rw[bg5,h2];rfl
 have u10:uM fs 10=c.toNat % 2:=by rw[bg5,h2];rfl
 have hk:∀ k,lastM fs k 2=none:=fun k=>by
  have e:=uz (fs:=fs) (fs':=(cP c).map fun x=>x.fld 0) (by rw[h2,fld_core]) k 2
  have e2:lastM ((cP c).map fun x=>x.fld 0) k 2=none:=by
    unfold lastM;rw[List.find?_eq_none];intro x hx;rw[List.mem_reverse,aa7] at hx;obtain⟨p,hp,rfl⟩:=hx;simp only[cP,aac,aa5,or_false] at hp;rcases hp with rfl|rfl<;>simp[isF,Put.fld]
  rw[e2,Option.map_none,Option.map_eq_none_iff] at e;exact e
 have hp:partF (partM t.kind) fs=none:=by
  unfold partF;split
  · rfl
  · exact hk _
 unfold rdM;rw[h1];simp only[ne_eq,zz,if_false];rw[hp,u1,u10,if_neg y8];rfl
theorem idx_c (t:Ty) (sc:Nat):∀ (cs:List UInt8) (fs:List Fld) (acc:List Sv),fs.map Fld.core=(cs.map cG).map Put.core→idxM t sc fs acc=(acc++cs.map cS,0)
 | [],fs,acc,h=>by
  have:fs=[]:=by simpa using h
  subst this;rw[List.map_nil,List.append_nil];rfl
 |c::cs,[],acc,h=>by simp at h
 | c::cs,f::fs,acc,h=>by
  rw[List.map_cons,List.map_cons,List.map_cons,List.cons.injEq] at h;obtain⟨h1,h2⟩:=h;have hb:f.b=putB [Put.b 2 (putB (cP c))]:=congrArg (fun q:Nat×Nat×Nat×List UInt8=>q.2.2.2) h1
  obtain⟨gs,g1,g2⟩:=ma [Put.b 2 (putB (cP c))] (by
   intro x hx;rw[aa1] at hx;subst hx;simp only[Put.ok];omega) (by have:=g_len c;omega) zb
  have e:=uz (fs:=gs) (fs':=[Put.fld 0 (Put.b 2 (putB (cP c)))]) g2 2 2;have e2:lastM [Put.fld 0 (Put.b 2 (putB (cP c)))] 2 2=some (Put.fld 0 (Put.b 2 (putB (cP c)))):=by simp[lastM,isF,Put.fld]
  rw[e2,Option.map_some,zg] at e;obtain⟨x,hx,hxc⟩:=e;have hxb:x.b=putB (cP c):=congrArg (fun q:Nat×Nat×Nat×List UInt8=>q.2.2.2) hxc
  have ih:=idx_c t sc cs fs (acc++[cS c]) h2;unfold idxM;rw[hb,g1];simp only[ne_eq,zz,if_false,hx,hxb,rd_c];rw[ih,aad];rfl
theorem all_c:∀ (cs:List UInt8) (fs:List Fld),fs.map Fld.core=(cs.map cG).map Put.core→allM fs 1=fs
 | [],fs,h=>by
  have:fs=[]:=by simpa using h
  subst this;rfl
 |c::cs,[],h=>by simp at h
 | c::cs,f::fs,h=>by
  rw[List.map_cons,List.map_cons,List.map_cons,List.cons.injEq] at h;obtain⟨h1,h2⟩:=h;have n1:f.num=1:=congrArg (fun q:Nat×Nat×Nat×List UInt8=>q.1) h1
  have n2:f.wire=2:=congrArg (fun q:Nat×Nat×Nat×List UInt8=>q.2.1) h1
  have ih:=all_c cs fs h2;unfold allM at ih ⊢;rw[List.filter_cons,if_pos (by simp[isF,n1,n2]),ih]
theorem auv (cs:List UInt8):(putB (cs.map cG)).length≤80*cs.length:=by
 have:=qx (cs.map cG) 80 (fun x hx=>by
  obtain⟨c,_,rfl⟩:=aa7.1 hx;exact btk c)
 rwa [zj] at this
theorem read_c (t:Ty) (sc:Nat) (cs:List UInt8) (h:cs.length≤100):readI t sc (putB (cs.map cG))=(cs.map cS,0):=by
 have hl:=auv cs;obtain⟨fs,h1,h2⟩:=ma (cs.map cG) (by
  intro x hx;obtain⟨c,_,rfl⟩:=aa7.1 hx;simp only[cG,Put.ok];omega) y8 (by simp;omega)
 unfold readI;rw[h1];simp only[ne_eq,zz,if_false];rw[all_c cs fs h2,idx_c t sc cs fs [] h2];rfl
