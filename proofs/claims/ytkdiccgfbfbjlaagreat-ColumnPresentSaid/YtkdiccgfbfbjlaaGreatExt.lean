import Derived.Test.YtkdiccgfbfbjlaaGreatCode
import Derived.Test.YtkdiccgfbfbjlaaGreatL9
import Derived.WalkKit
import Derived.Maps.Own
import Derived.Maps.Views
import Derived.StringKeys
import Derived.Deep.LoopGhost
import Derived.Test.YtkdiccgfbfbjlaaGreatMT
namespace Go.Proofs.YtkdiccgfbfbjlaaGreat
open Go Go.Ev Go.RowKit Go.WideMaps Go.Maps
theorem aah:Keyed Tryz.prog 9:=string_keyed Tryz.underlying9
theorem aq2 (w:World):(zeroValue 4).run Tryz.prog w= .ok (.bool false) w:=ux
def hadD:List Tx→DataW Unit
 | []=> .map []
 |s::had=>(hadD had).put (.string s) (.lit (.bool true))
theorem aap:∀ had,IsMap (hadD had)
 | []=>⟨[],rfl⟩
 | s::had=>by
  obtain⟨es,he⟩:=aap had;rw[hadD,he];exact⟨_,rfl⟩
theorem had_at (x:Tx):∀ had:List Tx,(hadD had).atKey (.string x) (.lit (.bool false))= .lit (.bool (had.contains x))
 | []=>rfl
 | s::had=>by
  rw[hadD];by_cases e:x=s
  · subst e
    rw[atKey_put_same (aap had) (by simp[WideAt.IsKeyLit])]
    simp
  · rw[atKey_put_other (by intro h;exact e (by simpa using h)),had_at x had]
    have:(x==s)=false:=by simpa using e
    rw[List.contains_cons,this,Bool.false_or]
theorem o6 {P:Program} {e:TypeId} (he:P.underlying e=some .bool) {v:Value} {x:Bool} {ps:List MemPlace} (h:plainElem (H:=Unit) P e v=some (.lit (.bool x),ps)):v= .bool x:=by
 unfold plainElem at h;rw[he] at h;cases v<;>simp at h;rw[h.1]
set_option maxRecDepth 100000 in
theorem aq3 (a:Option Addr) (c:Nat) (w:World):Calls Tryz.prog 145 #[.slice a 0 c] w fun e w'=>e= .returned (.bool true)∧Below w.heap.size w w':=by
 have hmm:= @run_makeMap Tryz.prog
 go_enter Tryz.func145,Tryz.ntmps145
 go_wp2
 refine wp_loop_rounds 1 ?_;rw[rounds_succ]
 go_wp2
 go_ret
 exact⟨rfl,(Below.refl _ _).alloc (u9 _) _⟩
set_option maxHeartbeats 4000000 in
set_option maxRecDepth 100000 in
theorem aq4 (b o c:Nat) (l:List Tx) (w:World) (hl:l.length≤1000000) (hcap:l.length≤c) (hb:b<w.heap.size) (hc:∀ (j:Nat) x,l[j]? =some x→w.cell? ⟨b,o+j,none⟩=some (.string ⟨x.toArray⟩)):
  Calls Tryz.prog 145 #[.slice (some ⟨b,o,none⟩) l.length c] w fun e w'=>e= .returned (.bool (eh [] l))∧Below w.heap.size w w':=by
 have hmm:= @run_makeMap Tryz.prog;have HC:Aside (∀ (j:Nat) x,l[j]? =some x→w.cell? ⟨b,o+j,none⟩=some (.string ⟨x.toArray⟩)):=hc
 clear hc
 go_enter Tryz.func145,Tryz.ntmps145
 go_wp2
 go_loopw [9] (fun i wr=>∃ (k:Nat) (had:List Tx),k≤l.length∧i= .int .i64 k∧wr.ownsMap Tryz.prog 9 (plainElem Tryz.prog 4) w.heap.size k (hadD had)∧Below w.heap.size w wr∧eh had (l.drop k)=eh [] l)
  (fun i _=>l.length-(intOf i).toNat)
 case atStart=>exact⟨0,[],wq _,rfl,World.ownsMap_made _ _ _ _,(Below.refl _ _).alloc (u9 _) _,rfl⟩
 case round=>
  obtain⟨k,had,hk,rfl,hown,hnx,hok⟩:=hrel;by_cases hlt:k<l.length
  · obtain⟨s,hs⟩:∃ s,l[k]? =some s:=⟨_,u4 hlt⟩
    have hcx:wr.cell? ⟨b,o+k,none⟩=some (.string ⟨s.toArray⟩):=(hnx.cell (by exact hb)).trans (HC.out k s hs)
    have hdrop:l.drop k=s::l.drop (k+1):=by
      rw[xk hlt];rw[u4 hlt] at hs;cases hs;rfl
    rw[hdrop,eh] at hok;have OK:Aside ((!(s.isEmpty||decide (100<s.length)||had.contains s)&&eh (s::had) (l.drop (k+1)))=eh [] l):=hok;clear hs hdrop hok;by_cases h1:s=[]
    · subst h1
      go_wp2
      go_ret
      refine⟨?_,hnx⟩;rw[← OK.out];rfl
    · have hne:(⟨s.toArray⟩:ByteArray)≠⟨#[]⟩:=fun e=>h1 (by have:=congrArg (·.data.toList) e;simpa using this)
      by_cases h2:100<s.length
      · go_wp2
        go_ret
        refine⟨?_,hnx⟩;rw[← OK.out];have:decide (100<s.length)=true:=by simpa using h2
        rw[this];simp
      · have hkey:keyOf Tryz.prog 9 (.string ⟨s.toArray⟩)=some (.string s):=by
         have:=keyOf_string_mk (P:=Tryz.prog) (k:=9) Tryz.underlying9 (s:=⟨s.toArray⟩) (by unfold maxLen;simp[ByteArray.size];omega)
         simpa using this
        obtain⟨v,ps,hrun,hv⟩:=hown.lookup aah Tryz.underlying237 (aq2 wr) (plainElem_bool Tryz.underlying4 false) hkey;rw[had_at] at hv;obtain rfl:=o6 Tryz.underlying4 hv;have e1:s.isEmpty=false:=by simpa using h1
        have e2:decide (100<(s.length:Int))=false:=by simp;omega
        cases hcn:had.contains s with
        | true=>
         rw[hcn] at hrun
         go_wp2
         go_ret
         refine⟨?_,hnx⟩;rw[← OK.out,hcn];simp
        | false=>
         rw[hcn] at hrun
         go_wp2_with (first
          | (at_mapUpdate;refine wpList_mapUpdate_own _ rfl _ _ _ 237 rfl 9 4 aah Tryz.underlying237 _ w.heap.size k _ rfl hown (by unfold maxLen;omega) _ _ _ rfl rfl hkey _ [] (plainElem_bool Tryz.underlying4 true) ?_)
          |go_in)
         intro w1 hown1 hgrow1;have R2:=hnx.grown hgrow1 hnx.size (fun j hj=>by cases hj;exact u9 _)
         have hok':eh (s::had) (l.drop (k+1))=eh [] l:=by
          rw[← OK.out,hcn];have e1:s.isEmpty=false:=by simpa using h1
          have e2:decide (100<s.length)=false:=by simpa using h2
          rw[e1,e2];rfl
         clear hgrow1 hown hrun hcx hkey hnx
         go_wp2
         go_roundw
         case rel=>exact⟨k+1,s::had,by omega,by go_num,hown1,R2,hok'⟩
         case measure=>simp[intOf];omega
  · have:k=l.length:=uw
    subst this
    go_wp2
    go_ret
    rw[List.drop_length] at hok;exact⟨by rw[← hok];rfl,hnx⟩
end Go.Proofs.YtkdiccgfbfbjlaaGreat
namespace Go.Proofs.YtkdiccgfbfbjlaaGreat
open Go.Ev Go Go.RowKit
theorem clip49 (ad:Option Addr) (len cap:Nat) (w:World) (_:len≤cap):Calls Tryz.prog 49 #[.slice ad len cap] w fun e w'=>e= .returned (.slice ad len len)∧w'=w:=by
 go_enter Tryz.func49,Tryz.ntmps49
 go_wp2
 go_ret
 exact⟨rfl,rfl⟩
theorem bodyC49:∃ c,Tryz.f49.body=some c:=vw.1 ux
theorem clip133 (ad:Option Addr) (len cap:Nat) (w:World) (_:len≤cap):Calls Tryz.prog 133 #[.slice ad len cap] w fun e w'=>e= .returned (.slice ad len len)∧w'=w:=by
 go_enter Tryz.func133,Tryz.ntmps133
 go_wp2
 go_ret
 exact⟨rfl,rfl⟩
theorem bodyC133:∃ c,Tryz.f133.body=some c:=vw.1 ux
theorem clip132 (ad:Option Addr) (len cap:Nat) (w:World) (_:len≤cap):Calls Tryz.prog 132 #[.slice ad len cap] w fun e w'=>e= .returned (.slice ad len len)∧w'=w:=by
 go_enter Tryz.func132,Tryz.ntmps132
 go_wp2
 go_ret
 exact⟨rfl,rfl⟩
theorem bodyC132:∃ c,Tryz.f132.body=some c:=vw.1 ux
theorem clip84 (ad:Option Addr) (len cap:Nat) (w:World) (_:len≤cap):Calls Tryz.prog 84 #[.slice ad len cap] w fun e w'=>e= .returned (.slice ad len len)∧w'=w:=by
 go_enter Tryz.func84,Tryz.ntmps84
 go_wp2
 go_ret
 exact⟨rfl,rfl⟩
theorem bodyC84:∃ c,Tryz.f84.body=some c:=vw.1 ux
theorem clip32 (ad:Option Addr) (len cap:Nat) (w:World) (_:len≤cap):Calls Tryz.prog 32 #[.slice ad len cap] w fun e w'=>e= .returned (.slice ad len len)∧w'=w:=by
 go_enter Tryz.func32,Tryz.ntmps32
 go_wp2
 go_ret
 exact⟨rfl,rfl⟩
theorem bodyC32:∃ c,Tryz.f32.body=some c:=vw.1 ux
theorem clip78 (ad:Option Addr) (len cap:Nat) (w:World) (_:len≤cap):Calls Tryz.prog 78 #[.slice ad len cap] w fun e w'=>e= .returned (.slice ad len len)∧w'=w:=by
 go_enter Tryz.func78,Tryz.ntmps78
 go_wp2
 go_ret
 exact⟨rfl,rfl⟩
theorem bodyC78:∃ c,Tryz.f78.body=some c:=vw.1 ux
theorem clip76 (ad:Option Addr) (len cap:Nat) (w:World) (_:len≤cap):Calls Tryz.prog 76 #[.slice ad len cap] w fun e w'=>e= .returned (.slice ad len len)∧w'=w:=by
 go_enter Tryz.func76,Tryz.ntmps76
 go_wp2
 go_ret
 exact⟨rfl,rfl⟩
theorem bodyC76:∃ c,Tryz.f76.body=some c:=vw.1 ux
theorem clip_ok:a0n Tryz.prog cfg:=fun f hf=>by
 have hf':clips.contains f=true:=hf;simp only[clips,List.contains_cons,List.contains_nil,Bool.or_false,Bool.or_eq_true,wb] at hf';rcases hf' with rfl|rfl|rfl|rfl|rfl|rfl|rfl
 · obtain⟨c,hc⟩:=bodyC49
   exact bm Tryz.func49 ux hc clip49
 · obtain⟨c,hc⟩:=bodyC133
   exact bm Tryz.func133 ux hc clip133
 · obtain⟨c,hc⟩:=bodyC132
   exact bm Tryz.func132 ux hc clip132
 · obtain⟨c,hc⟩:=bodyC84
   exact bm Tryz.func84 ux hc clip84
 · obtain⟨c,hc⟩:=bodyC32
   exact bm Tryz.func32 ux hc clip32
 · obtain⟨c,hc⟩:=bodyC78
   exact bm Tryz.func78 ux hc clip78
 · obtain⟨c,hc⟩:=bodyC76
   exact bm Tryz.func76 ux hc clip76
theorem follows:Tryz.prog.follows .mixedOrders=true:=ux
theorem bodyN:∃ c,Tryz.f145.body=some c:=vw.1 ux
theorem ok_names:Gives Tryz.prog cfg n_dk afe:=by
 obtain⟨c,hc⟩:=bodyN;exact aec Tryz.func145 ux hc aq3 fun b o c l w h1 h2 h3 h4=>aq4 b o c l w h1 h2 h3 h4
theorem ext_ok:ExtOk Tryz.prog cfg:=extOk_of fun f g hf=>by
 have hf':exts f=some g:=hf;unfold exts at hf';split at hf'
 · rename_i e;cases hf';rw[e];exact ok_names
 split at hf'
 · rename_i e;cases hf';rw[e];exact ok_known
 split at hf'
 · rename_i e;cases hf';rw[e];exact ok_table
 split at hf'
 · rename_i e;cases hf';rw[e];exact ok_bytes
 split at hf'
 · rename_i e;cases hf';rw[e];exact ok_ints
 cases hf'
theorem iter_ok:IterOk Tryz.prog cfg:=fun f g hg=>by
 have hg':iters f=some g:=hg
 letI:Go.Me.Gam:=⟨fun _=>(0,0)⟩
 unfold iters at hg';split at hg'
 · rename_i e;cases hg';rw[e];exact qm apx ap6
 split at hg'
 · rename_i e;cases hg';rw[e];exact qm apw ap5
 cases hg'
theorem cfg_ok:CfgOk Tryz.prog cfg where
 intTy:=fun t h=>by cases h
 meth:=fun t n f h=>by cases h
 clip:=clip_ok
 iter:=iter_ok
theorem funcs_ok:oy Tryz.prog cfg:=fun f fn hf=>by
 have hf':fnsOf Tryz.prog tbl tab f=some fn:=hf;unfold fnsOf at hf';split at hf'
 · rename_i fn' h
   cases hf';exact tbl_ok (f,fn) (ax9 h)
 · exact aqd tab_ok hf'
