import Derived.Test.YtmeohcmbohicoaaGreatDoorCode
import Derived.Test.YtmeohcmbohicoaaGreatDoorL9
import Derived.WalkKit
import Derived.Maps.Own
import Derived.Maps.Views
import Derived.StringKeys
import Derived.Deep.LoopGhost
namespace Go.Proofs.YtmeohcmbohicoaaGreatDoor
open Go Go.Ev Go.RowKit Go.WideMaps Go.Maps
theorem ae3:Keyed Tryz.prog 9:=string_keyed Tryz.underlying9
theorem av2 (w:World):(zeroValue 4).run Tryz.prog w= .ok (.bool false) w:=vo
def hadD:List Tx→DataW Unit
 | []=> .map []
 |s::had=>(hadD had).put (.string s) (.lit (.bool true))
theorem afg:∀ had,IsMap (hadD had)
 | []=>⟨[],rfl⟩
 | s::had=>by
  obtain⟨es,he⟩:=afg had;rw[hadD,he];exact⟨_,rfl⟩
theorem had_at (x:Tx):∀ had:List Tx,(hadD had).atKey (.string x) (.lit (.bool false))= .lit (.bool (had.contains x))
 | []=>rfl
 | s::had=>by
  rw[hadD];by_cases e:x=s
  · subst e
    rw[atKey_put_same (afg had) (by simp[WideAt.IsKeyLit])]
    simp
  · rw[atKey_put_other (by intro h;exact e (by simpa using h)),had_at x had]
    have:(x==s)=false:=by simpa using e
    rw[List.contains_cons,this,Bool.false_or]
theorem qr {P:Program} {e:TypeId} (he:P.underlying e=some .bool) {v:Value} {x:Bool} {ps:List MemPlace} (h:plainElem (H:=Unit) P e v=some (.lit (.bool x),ps)):v= .bool x:=by
 unfold plainElem at h;rw[he] at h;cases v<;>simp at h;rw[h.1]
set_option maxRecDepth 100000 in
theorem av3 (a:Option Addr) (c:Nat) (w:World):Calls Tryz.prog 120 #[.slice a 0 c] w fun e w'=>e= .returned (.bool true)∧Below w.heap.size w w':=by
 have hmm:= @run_makeMap Tryz.prog
 go_enter Tryz.func120,Tryz.ntmps120
 go_wp2
 refine wp_loop_rounds 1 ?_;rw[rounds_succ]
 go_wp2
 go_ret
 exact⟨rfl,(Below.refl _ _).alloc (wa _) _⟩
set_option maxHeartbeats 4000000 in
set_option maxRecDepth 100000 in
theorem av4 (b o c:Nat) (l:List Tx) (w:World) (hl:l.length≤1000000) (hcap:l.length≤c) (hb:b<w.heap.size) (hc:∀ (j:Nat) x,l[j]? =some x→w.cell? ⟨b,o+j,none⟩=some (.string ⟨x.toArray⟩)):
  Calls Tryz.prog 120 #[.slice (some ⟨b,o,none⟩) l.length c] w fun e w'=>e= .returned (.bool (c8 [] l))∧Below w.heap.size w w':=by
 have hmm:= @run_makeMap Tryz.prog;have HC:Aside (∀ (j:Nat) x,l[j]? =some x→w.cell? ⟨b,o+j,none⟩=some (.string ⟨x.toArray⟩)):=hc
 clear hc
 go_enter Tryz.func120,Tryz.ntmps120
 go_wp2
 go_loopw [9] (fun i wr=>∃ (k:Nat) (had:List Tx),k≤l.length∧i= .int .i64 k∧wr.ownsMap Tryz.prog 9 (plainElem Tryz.prog 4) w.heap.size k (hadD had)∧Below w.heap.size w wr∧c8 had (l.drop k)=c8 [] l)
  (fun i _=>l.length-(intOf i).toNat)
 case atStart=>exact⟨0,[],ww _,rfl,World.ownsMap_made _ _ _ _,(Below.refl _ _).alloc (wa _) _,rfl⟩
 case round=>
  obtain⟨k,had,hk,rfl,hown,hnx,hok⟩:=hrel;by_cases hlt:k<l.length
  · obtain⟨s,hs⟩:∃ s,l[k]? =some s:=⟨_,vy hlt⟩
    have hcx:wr.cell? ⟨b,o+k,none⟩=some (.string ⟨s.toArray⟩):=(hnx.cell (by exact hb)).trans (HC.out k s hs)
    have hdrop:l.drop k=s::l.drop (k+1):=by
      rw[yg hlt];rw[vy hlt] at hs;cases hs;rfl
    rw[hdrop,c8] at hok;have OK:Aside ((!(s.isEmpty||decide (100<s.length)||had.contains s)&&c8 (s::had) (l.drop (k+1)))=c8 [] l):=hok;clear hs hdrop hok;by_cases h1:s=[]
    · subst h1
      go_wp2
      go_ret
      refine⟨?_,hnx⟩;rw[← OK.out];rfl
    · have hne:(⟨s.toArray⟩:ByteArray)≠⟨#[]⟩:=fun e=>h1 (by have:=congrArg (·.data.toList) e;simpa using this)
      by_cases h2:100<s.length
      · go_wp2
        go_ret
        refine⟨?_,hnx⟩;rw[← OK.out];have:decide (100<s.length)=true:=by simpa using h2
        rw[this];simp
      · have hkey:keyOf Tryz.prog 9 (.string ⟨s.toArray⟩)=some (.string s):=by
         have:=keyOf_string_mk (P:=Tryz.prog) (k:=9) Tryz.underlying9 (s:=⟨s.toArray⟩) (by unfold maxLen;simp[ByteArray.size];omega)
         simpa using this
        obtain⟨v,ps,hrun,hv⟩:=hown.lookup ae3 Tryz.underlying211 (av2 wr) (plainElem_bool Tryz.underlying4 false) hkey;rw[had_at] at hv;obtain rfl:=qr Tryz.underlying4 hv;have e1:s.isEmpty=false:=by simpa using h1
        have e2:decide (100<(s.length:Int))=false:=by simp;omega
        cases hcn:had.contains s with
        | true=>
         rw[hcn] at hrun
         go_wp2
         go_ret
         refine⟨?_,hnx⟩;rw[← OK.out,hcn];simp
        | false=>
         rw[hcn] at hrun
         go_wp2_with (first
          | (at_mapUpdate;refine wpList_mapUpdate_own _ rfl _ _ _ 211 rfl 9 4 ae3 Tryz.underlying211 _ w.heap.size k _ rfl hown (by unfold maxLen;omega) _ _ _ rfl rfl hkey _ [] (plainElem_bool Tryz.underlying4 true) ?_)
          |go_in)
         intro w1 hown1 hgrow1;have R2:=hnx.grown hgrow1 hnx.size (fun j hj=>by cases hj;exact wa _)
         have hok':c8 (s::had) (l.drop (k+1))=c8 [] l:=by
          rw[← OK.out,hcn];have e1:s.isEmpty=false:=by simpa using h1
          have e2:decide (100<s.length)=false:=by simpa using h2
          rw[e1,e2];rfl
         clear hgrow1 hown hrun hcx hkey hnx
         go_wp2
         go_roundw
         case rel=>exact⟨k+1,s::had,by omega,by go_num,hown1,R2,hok'⟩
         case measure=>simp[intOf];omega
  · have:k=l.length:=vn
    subst this
    go_wp2
    go_ret
    rw[List.drop_length] at hok;exact⟨by rw[← hok];rfl,hnx⟩
