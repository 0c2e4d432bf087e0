import Derived.Test.YtkdiccgfbfbjlaaGreatMeX1
import Derived.Test.YtkdiccgfbfbjlaaGreatProg
import Derived.RangeFuncBox
import Derived.RangeFuncLeaves
import Derived.WalkKit
import Derived.OwnWalkIn
import Derived.TacticsInMore
import Derived.LoopNIn
import Derived.LoopIn
import Derived.KernelRfl
import Derived.Deep.LoopGhost
import Derived.Laws.MakeOwn
import Derived.Deep.RegionHeld3
namespace Go.Proofs.YtkdiccgfbfbjlaaGreat
open Go Go.Me Go.RowKit
variable [Gam]
set_option linter.unusedSectionVars false
set_option linter.unusedVariables false
set_option linter.unusedSimpArgs false
attribute [local go_sem] Oper.semAt_some
set_option maxRecDepth 100000
theorem enter147 (args:Array Value) (w:World):(callFunc 147 args).run Tryz.prog w= .ok (.enter 147 args) w:=by
 obtain⟨c,hc⟩:∃ c,Tryz.f147.body=some c:=Option.isSome_iff_exists.1 (by kernel_rfl)
 exact run_enter Tryz.func147 (by kernel_rfl) hc args w
theorem made (w:World):∃ cs:Array Value,(Instr.makeSlice 48 (.int .i64 4096) (.int .i64 4096)).run Tryz.prog w= .ok (.slice (some ⟨w.heap.size,0,none⟩) 4096 4096) (w.alloc (.cells cs 3))∧cs.size=4096:=by
 obtain⟨i0,hi,hz0,hz1,hz2⟩:=info_parts (P:=Tryz.prog) (e:=3) (z:= .int .i64 0) (size:=1) (bytes:=8) (by kernel_rfl)
 have:=run_make (P:=Tryz.prog) (w:=w) 48 3 i0 (.int .i64 0) Tryz.underlying48 hi hz0 .i64 .i64 4096 4096 (by omega) (by omega) (by rw[hz2];omega) (by omega)
 exact⟨_,this,by rw[hz1];simp[madeCells,Value.cells]⟩
def Filled (w:World) (i:Nat) (wr:World):Prop:=∃ cs:Array Value,wr.heap[w.heap.size]? =some (.cells cs 3)∧cs.size=4096∧(∀ j,j<i→cs[j]? =some (.int .i64 (-1)))∧(∀ c,c<w.heap.size→wr.heap[c]? =w.heap[c]?)∧wr.os=w.os∧wr.tape=w.tape∧wr.output=w.output
theorem Filled.step {w wr:World} {i:Nat} (h:Filled w i wr) (hi:i<4096):(∃ v,wr.cell? ⟨w.heap.size,i,none⟩=some v)∧Filled w (i+1) (wr.setCell ⟨w.heap.size,i,none⟩ (.int .i64 (-1))):=by
 obtain⟨cs,h1,h2,h3,h4,h5⟩:=h;refine⟨⟨cs[i]'(by omega),by simp[World.cell?,h1,h2,hi]⟩,cs.setIfInBounds i (.int .i64 (-1)),?_,by simp[h2],fun j hj=> ?_,fun c hc=> ?_,h5⟩
 · simp[World.setCell,Array.getElem?_modify,h1]
 · by_cases e:j=i
   · subst e;simp[h2,hi]
   · rw[Array.getElem?_setIfInBounds_ne (Ne.symm e)];exact h3 j (by omega)
 · rw[← h4 c hc]
   simp[World.setCell,Array.getElem?_modify,show ¬ w.heap.size=c by omega]
theorem np (w:World):Calls Tryz.prog 147 #[] w fun e w'=>∃ (cs:Array Value) (t:TypeId),e= .returned (.slice (some ⟨w.heap.size,0,none⟩) 4096 4096)∧w'.heap[w.heap.size]? =some (.cells cs t)∧cs.size=4096∧(∀ i,i<4096→cs[i]? =some (.int .i64 (-1)))∧(∀ c,c<w.heap.size→w'.heap[c]? =w.heap[c]?)∧w'.os=w.os∧w'.tape=w.tape∧w'.output=w.output:=by
 obtain⟨cs0,hmk,hcs0⟩:=made w;have h0:Filled w 0 (w.alloc (.cells cs0 3)):=⟨cs0,World.alloc_heap_new w _,hcs0,fun j hj=>by omega,fun c hc=>Below.heap_alloc _ _ _ hc,rfl,rfl,rfl⟩
 have H0:Aside (Filled w 0 (w.alloc (.cells cs0 3))):=h0;clear h0;generalize hW:w.alloc (.cells cs0 3)=W0 at*
 go_enter Tryz.func147,Tryz.ntmps147
 go_wp2
 go_loopg [6] 4096 (fun g s6 wr=>∃ k:Nat,k≤4096∧4096-k≤g∧s6= .int .i64 k∧Filled w k wr)
 case atStart=>exact⟨0,by omega,by omega,rfl,H0⟩
 case round=>
  obtain⟨k,hk,hg,rfl,hF⟩:=hrel;by_cases hlt:k<4096
  · obtain⟨⟨v,hv⟩,hn⟩:=hF.step hlt
    have hfz:wr.frozen? ⟨w.heap.size,k,none⟩=false:=by obtain⟨cs,h1,_⟩:=hF;exact frozen_of_row wr _ _ cs 3 h1
    have HN:Aside (Filled w (k+1) (wr.setCell ⟨w.heap.size,k,none⟩ (.int .i64 (-1)))):=hn;clear hn hF
    go_wp2
    go_roundg (4096-(k+1))
    case measure=>omega
    case rel=>exact⟨k+1,by omega,by omega,by go_num,HN⟩
  · obtain rfl:k=4096:=by omega
    have HN:Aside (Filled w 4096 wr):=hF;clear hF
    go_wp2
    go_ret
    obtain⟨cs,h1,h2,h3,h4,h5⟩:=HN;exact⟨cs,3,rfl,h1,h2,h3,h4,h5⟩
theorem afl (w:World):Calls Tryz.prog 147 #[] w fun e w'=>∃ (cs:Array Value) (t:TypeId) (fr:Nat×Nat),e= .returned (.slice (some ⟨w.heap.size,0,none⟩) 4096 4096)∧w'.heap[w.heap.size]? =some (.cells cs t fr)∧cs.size=4096∧(fr.1=fr.2∨4096≤fr.1)∧(∀ i,i<4096→cs[i]? =some (.int .i64 (-1)))∧(∀ c,c<w.heap.size→w'.heap[c]? =w.heap[c]?)∧w'.os=w.os∧w'.tape=w.tape∧w'.output=w.output:=
 (np w).mono fun e w' ⟨cs,t,h0,h1,h2,h3,h4,h5⟩=>⟨cs,t,(0,0),h0,h1,h2,.inl rfl,h3,h4,h5⟩
theorem aje (u v:Value) (w:World):(callFunc 165 #[u,v]).run Tryz.prog w=((do pure (goInt (Extern.BytealgCompare.cmp (← Extern.Bytes.bytesOf u) (← Extern.Bytes.bytesOf v)))) >>= fun v=>(pure (.value v):Sem Next)).run Tryz.prog w:=by
 have h0:Tryz.f165.body=none:=by kernel_rfl
 have h1:Extern.findNext Tryz.f165=none:=by kernel_rfl
 have h2:Extern.find Tryz.f165=some Extern.BytealgCompare.compare:=by kernel_rfl
 have h3:(Tryz.f165.name=="runtime.NumGoroutine")=false:=by kernel_rfl
 have h4:Tryz.f165.name≠"runtime.NumGoroutine":= by simpa using h3
 have h5:Extern.BytealgCompare.compare #[u,v]=(do pure (goInt (Extern.BytealgCompare.cmp (← Extern.Bytes.bytesOf u) (← Extern.Bytes.bytesOf v)))):=rfl
 rw[← h5];simp only[callFunc,Sem.run_bind,run_program,Result.andThen_ok,Tryz.func165,h0,Option.isNone_none,if_true,h1,h2];rw[if_neg (by simpa using h4)]
 simp[mark];rfl
theorem aur (args:Array Value) (w:World):(callFunc 117 args).run Tryz.prog w= .ok (.enter 117 args) w:=by
 obtain⟨c,hc⟩:∃ c,Tryz.f117.body=some c:=Option.isSome_iff_exists.1 (by kernel_rfl)
 exact run_enter Tryz.func117 (by kernel_rfl) hc args w
theorem auq (args:Array Value) (w:World):(callFunc 155 args).run Tryz.prog w= .ok (.enter 155 args) w:=by
 obtain⟨c,hc⟩:∃ c,Tryz.f155.body=some c:=Option.isSome_iff_exists.1 (by kernel_rfl)
 exact run_enter Tryz.func155 (by kernel_rfl) hc args w
end Go.Proofs.YtkdiccgfbfbjlaaGreat
namespace Go.Proofs.YtkdiccgfbfbjlaaGreat
open Go Go.Me Go.RowKit
variable [Gam]
set_option linter.unusedSectionVars false
set_option linter.unusedVariables false
set_option linter.unusedSimpArgs false
attribute [local go_sem] Oper.semAt_some
set_option maxRecDepth 100000
set_option maxHeartbeats 2000000 in
theorem au1:ChunkWalk Tryz.prog 117 1:=by
 intro l B o B' o' n m J Jx W hm hnm hJ hJx hR h0;have hlt:∀ {k:Nat},k<(n+m-1) / m↔k*m<n:=fun {k}=>qi hm
 generalize(n+m-1) / m=len at *;refine callsIn_of_wp Tryz.func117 rfl trivial ?_ rfl;simp only[Tryz.ntmps117,List.size_toArray,List.length_cons,List.length_nil,Nat.reduceAdd,Nat.reduceSub,Array.replicate_succ,Array.replicate_zero,List.push_toArray,List.append_toArray,List.nil_append,List.cons_append]
 gi_wp2
 gi_loopw [4] (fun i wr=>∃ k:Nat,k≤len∧i= .int .i64 ((k*m:Nat):Int)∧J k wr) (fun i _=>n+m-(intOf i).toNat)
 case atStart=>exact⟨0,Nat.zero_le _,by simp,h0⟩
 case round=>
  obtain⟨k,hk,rfl,hJk⟩:=hrel;obtain⟨ad,cap,c1',hcap,c2',hy⟩:=hR k wr.drew hk (hJ k wr wr.drew hJk ⟨rfl,rfl,rfl,Nat.le_refl _,fun _ _ _=>rfl⟩)
  have c1:wr.cell? ⟨B,o,none⟩=some (.slice ad n cap):=c1';have c2:wr.cell? ⟨B',o',none⟩=some (.int .i64 (m:Int)):=c2';obtain⟨i0,hi0⟩:∃ i0,i0=k*m:=⟨_,rfl⟩
  rw[← hi0] at hy ⊢;have A0:Aside (i0=k*m):=hi0;by_cases hkm:i0<n
  · obtain⟨c,p,rfl,fn,tmps,assign,body,hyr,hRd⟩:=hy hkm
    obtain⟨e0,he0⟩:∃ e0,e0=min m (n-i0):=⟨_,rfl⟩
    have hE:(if n-i0<m then((n-i0:Nat):Int) else(m:Int))=(e0:Int):=by split<;>omega
    rw[← he0,Nat.mul_one] at hyr;have HR:Aside (RoundIn Fence.wide 0 Tryz.prog l fn tmps assign body wr.drew fun e Y=>e= .returned (.bool true)∧J (k+1) Y∨e= .returned (.bool false)∧Jx Y):=hRd
    have hle:k<len:=hlt.2 (by omega)
    have b1:i0+e0≤n:=by omega
    have b2:0<e0:=by omega
    have b3:e0≤m:=by omega
    have HA:Aside (∀ X,J (k+1) X→X.cell? ⟨B',o',none⟩=some (.int .i64 (m:Int))):=fun X hX=>(hR (k+1) X hle hX).choose_spec.choose_spec.2.2.1
    have z1:(0:Int)≤(i0:Int):=by omega
    have z2:(i0:Int)≤(n:Int):=by omega
    have z3:¬ cap=i0:=by omega
    have z4:i0≤n:=by omega
    clear hRd hy hR hJ hJx c1' c2' hlt hi0
    gi_wp2
    refine wpIn_wide.2 ?_
    go_region_held3 (fun w'=>w'.cell? ⟨B,o,none⟩=some (.slice (some ⟨c,p,none⟩) n cap)∧w'.cell? ⟨B',o',none⟩=some (.int .i64 (m:Int))) (go_keep) (fail)
    all_goals (try(exfalso;omega))
    rw[← he0];clear hE he0
    gi_wp2
    refine⟨rfl,HR.out.mono ?_⟩;clear hyr HR c1 c2
    rintro e W3 (⟨rfl,hJ3⟩|⟨rfl,hJx3⟩)
    · have c3:=HA.out W3 hJ3
      clear HA
      gi_wp2
      go_roundw
      case rel=>exact⟨k+1,hle,by rw[Nat.succ_mul,← A0.out];go_num,hJ3⟩
      case measure=>simp[intOf];omega
    · gi_wp2
      refine bodyPost_ret (results_none rfl _ _ _) rfl ?_;exact⟨⟨_,rfl⟩,.inr hJx3⟩
  · obtain rfl:k=len:=by
      apply Classical.byContradiction;intro hne;exact hkm (by rw[hi0];exact hlt.1 (by omega))
    clear hy hR hJ hJx c1' c2' hlt hi0
    gi_wp2
    go_end0
    exact⟨⟨_,rfl⟩,.inl hJk⟩
set_option maxHeartbeats 2000000 in
theorem au0:ChunkWalk Tryz.prog 155 1:=by
 intro l B o B' o' n m J Jx W hm hnm hJ hJx hR h0;have hlt:∀ {k:Nat},k<(n+m-1) / m↔k*m<n:=fun {k}=>qi hm
 generalize(n+m-1) / m=len at *;refine callsIn_of_wp Tryz.func155 rfl trivial ?_ rfl;simp only[Tryz.ntmps155,List.size_toArray,List.length_cons,List.length_nil,Nat.reduceAdd,Nat.reduceSub,Array.replicate_succ,Array.replicate_zero,List.push_toArray,List.append_toArray,List.nil_append,List.cons_append]
 gi_wp2
 gi_loopw [4] (fun i wr=>∃ k:Nat,k≤len∧i= .int .i64 ((k*m:Nat):Int)∧J k wr) (fun i _=>n+m-(intOf i).toNat)
 case atStart=>exact⟨0,Nat.zero_le _,by simp,h0⟩
 case round=>
  obtain⟨k,hk,rfl,hJk⟩:=hrel;obtain⟨ad,cap,c1',hcap,c2',hy⟩:=hR k wr.drew hk (hJ k wr wr.drew hJk ⟨rfl,rfl,rfl,Nat.le_refl _,fun _ _ _=>rfl⟩)
  have c1:wr.cell? ⟨B,o,none⟩=some (.slice ad n cap):=c1';have c2:wr.cell? ⟨B',o',none⟩=some (.int .i64 (m:Int)):=c2';obtain⟨i0,hi0⟩:∃ i0,i0=k*m:=⟨_,rfl⟩
  rw[← hi0] at hy ⊢;have A0:Aside (i0=k*m):=hi0;by_cases hkm:i0<n
  · obtain⟨c,p,rfl,fn,tmps,assign,body,hyr,hRd⟩:=hy hkm
    obtain⟨e0,he0⟩:∃ e0,e0=min m (n-i0):=⟨_,rfl⟩
    have hE:(if n-i0<m then((n-i0:Nat):Int) else(m:Int))=(e0:Int):=by split<;>omega
    rw[← he0,Nat.mul_one] at hyr;have HR:Aside (RoundIn Fence.wide 0 Tryz.prog l fn tmps assign body wr.drew fun e Y=>e= .returned (.bool true)∧J (k+1) Y∨e= .returned (.bool false)∧Jx Y):=hRd
    have hle:k<len:=hlt.2 (by omega)
    have b1:i0+e0≤n:=by omega
    have b2:0<e0:=by omega
    have b3:e0≤m:=by omega
    have HA:Aside (∀ X,J (k+1) X→X.cell? ⟨B',o',none⟩=some (.int .i64 (m:Int))):=fun X hX=>(hR (k+1) X hle hX).choose_spec.choose_spec.2.2.1
    have z1:(0:Int)≤(i0:Int):=by omega
    have z2:(i0:Int)≤(n:Int):=by omega
    have z3:¬ cap=i0:=by omega
    have z4:i0≤n:=by omega
    clear hRd hy hR hJ hJx c1' c2' hlt hi0
    gi_wp2
    refine wpIn_wide.2 ?_
    go_region_held3 (fun w'=>w'.cell? ⟨B,o,none⟩=some (.slice (some ⟨c,p,none⟩) n cap)∧w'.cell? ⟨B',o',none⟩=some (.int .i64 (m:Int))) (go_keep) (fail)
    all_goals (try(exfalso;omega))
    rw[← he0];clear hE he0
    gi_wp2
    refine⟨rfl,HR.out.mono ?_⟩;clear hyr HR c1 c2
    rintro e W3 (⟨rfl,hJ3⟩|⟨rfl,hJx3⟩)
    · have c3:=HA.out W3 hJ3
      clear HA
      gi_wp2
      go_roundw
      case rel=>exact⟨k+1,hle,by rw[Nat.succ_mul,← A0.out];go_num,hJ3⟩
      case measure=>simp[intOf];omega
    · gi_wp2
      refine bodyPost_ret (results_none rfl _ _ _) rfl ?_;exact⟨⟨_,rfl⟩,.inr hJx3⟩
  · obtain rfl:k=len:=by
      apply Classical.byContradiction;intro hne;exact hkm (by rw[hi0];exact hlt.1 (by omega))
    clear hy hR hJ hJx c1' c2' hlt hi0
    gi_wp2
    go_end0
    exact⟨⟨_,rfl⟩,.inl hJk⟩
