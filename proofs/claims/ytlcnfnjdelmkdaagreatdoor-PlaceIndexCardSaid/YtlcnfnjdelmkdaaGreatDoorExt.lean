import Derived.Test.YtlcnfnjdelmkdaaGreatDoorCode
import Derived.Test.YtlcnfnjdelmkdaaGreatDoorL10
import Derived.WalkKit
import Derived.Maps.Own
import Derived.Maps.Views
import Derived.StringKeys
import Derived.Deep.LoopGhost
import Derived.Test.YtlcnfnjdelmkdaaGreatDoorBak
import Derived.Test.YtlcnfnjdelmkdaaGreatDoorShelf
namespace Go.Proofs.YtlcnfnjdelmkdaaGreatDoor
open Go Go.Ev Go.RowKit Go.WideMaps Go.Maps
theorem amz:Keyed Tryz.prog 9:=string_keyed Tryz.underlying9
theorem bf0 (w:World):(zeroValue 4).run Tryz.prog w= .ok (.bool false) w:=y9
def hadD:List Tx→DataW Unit
 | []=> .map []
 |s::had=>(hadD had).put (.string s) (.lit (.bool true))
theorem ane:∀ had,IsMap (hadD had)
 | []=>⟨[],rfl⟩
 | s::had=>by
  obtain⟨es,he⟩:=ane had;rw[hadD,he];exact⟨_,rfl⟩
theorem had_at (x:Tx):∀ had:List Tx,(hadD had).atKey (.string x) (.lit (.bool false))= .lit (.bool (had.contains x))
 | []=>rfl
 | s::had=>by
  rw[hadD];by_cases e:x=s
  · subst e
    rw[atKey_put_same (ane had) (by simp[WideAt.IsKeyLit])]
    simp
  · rw[atKey_put_other (by intro h;exact e (by simpa using h)),had_at x had]
    have:(x==s)=false:=by simpa using e
    rw[List.contains_cons,this,Bool.false_or]
theorem tu {P:Program} {e:TypeId} (he:P.underlying e=some .bool) {v:Value} {x:Bool} {ps:List MemPlace} (h:plainElem (H:=Unit) P e v=some (.lit (.bool x),ps)):v= .bool x:=by
 unfold plainElem at h;rw[he] at h;cases v<;>simp at h;rw[h.1]
set_option maxRecDepth 100000 in
theorem bf1 (a:Option Addr) (c:Nat) (w:World):Calls Tryz.prog 115 #[.slice a 0 c] w fun e w'=>e= .returned (.bool true)∧Below w.heap.size w w':=by
 have hmm:= @run_makeMap Tryz.prog
 go_enter Tryz.func115,Tryz.ntmps115
 go_wp2
 refine wp_loop_rounds 1 ?_;rw[rounds_succ]
 go_wp2
 go_ret
 exact⟨rfl,(Below.refl _ _).alloc (z8 _) _⟩
set_option maxHeartbeats 4000000 in
set_option maxRecDepth 100000 in
theorem bf2 (b o c:Nat) (l:List Tx) (w:World) (hl:l.length≤1000000) (hcap:l.length≤c) (hb:b<w.heap.size) (hc:∀ (j:Nat) x,l[j]? =some x→w.cell? ⟨b,o+j,none⟩=some (.string ⟨x.toArray⟩)):
  Calls Tryz.prog 115 #[.slice (some ⟨b,o,none⟩) l.length c] w fun e w'=>e= .returned (.bool (dr [] l))∧Below w.heap.size w w':=by
 have hmm:= @run_makeMap Tryz.prog;have HC:Aside (∀ (j:Nat) x,l[j]? =some x→w.cell? ⟨b,o+j,none⟩=some (.string ⟨x.toArray⟩)):=hc
 clear hc
 go_enter Tryz.func115,Tryz.ntmps115
 go_wp2
 go_loopw [9] (fun i wr=>∃ (k:Nat) (had:List Tx),k≤l.length∧i= .int .i64 k∧wr.ownsMap Tryz.prog 9 (plainElem Tryz.prog 4) w.heap.size k (hadD had)∧Below w.heap.size w wr∧dr had (l.drop k)=dr [] l)
  (fun i _=>l.length-(intOf i).toNat)
 case atStart=>exact⟨0,[],aaj _,rfl,World.ownsMap_made _ _ _ _,(Below.refl _ _).alloc (z8 _) _,rfl⟩
 case round=>
  obtain⟨k,had,hk,rfl,hown,hnx,hok⟩:=hrel;by_cases hlt:k<l.length
  · obtain⟨s,hs⟩:∃ s,l[k]? =some s:=⟨_,zo hlt⟩
    have hcx:wr.cell? ⟨b,o+k,none⟩=some (.string ⟨s.toArray⟩):=(hnx.cell (by exact hb)).trans (HC.out k s hs)
    have hdrop:l.drop k=s::l.drop (k+1):=by
      rw[aa8 hlt];rw[zo hlt] at hs;cases hs;rfl
    rw[hdrop,dr] at hok;have OK:Aside ((!(s.isEmpty||decide (100<s.length)||had.contains s)&&dr (s::had) (l.drop (k+1)))=dr [] l):=hok;clear hs hdrop hok;by_cases h1:s=[]
    · subst h1
      go_wp2
      go_ret
      refine⟨?_,hnx⟩;rw[← OK.out];rfl
    · have hne:(⟨s.toArray⟩:ByteArray)≠⟨#[]⟩:=fun e=>h1 (by have:=congrArg (·.data.toList) e;simpa using this)
      by_cases h2:100<s.length
      · go_wp2
        go_ret
        refine⟨?_,hnx⟩;rw[← OK.out];have:decide (100<s.length)=true:=by simpa using h2
        rw[this];simp
      · have hkey:keyOf Tryz.prog 9 (.string ⟨s.toArray⟩)=some (.string s):=by
         have:=keyOf_string_mk (P:=Tryz.prog) (k:=9) Tryz.underlying9 (s:=⟨s.toArray⟩) (by unfold maxLen;simp[ByteArray.size];omega)
         simpa using this
        obtain⟨v,ps,hrun,hv⟩:=hown.lookup amz Tryz.underlying188 (bf0 wr) (plainElem_bool Tryz.underlying4 false) hkey;rw[had_at] at hv;obtain rfl:=tu Tryz.underlying4 hv;have e1:s.isEmpty=false:=by simpa using h1
        have e2:decide (100<(s.length:Int))=false:=by simp;omega
        cases hcn:had.contains s with
        | true=>
         rw[hcn] at hrun
         go_wp2
         go_ret
         refine⟨?_,hnx⟩;rw[← OK.out,hcn];simp
        | false=>
         rw[hcn] at hrun
         go_wp2_with (first
          | (at_mapUpdate;refine wpList_mapUpdate_own _ rfl _ _ _ 188 rfl 9 4 amz Tryz.underlying188 _ w.heap.size k _ rfl hown (by unfold maxLen;omega) _ _ _ rfl rfl hkey _ [] (plainElem_bool Tryz.underlying4 true) ?_)
          |go_in)
         intro w1 hown1 hgrow1;have R2:=hnx.grown hgrow1 hnx.size (fun j hj=>by cases hj;exact z8 _)
         have hok':dr (s::had) (l.drop (k+1))=dr [] l:=by
          rw[← OK.out,hcn];have e1:s.isEmpty=false:=by simpa using h1
          have e2:decide (100<s.length)=false:=by simpa using h2
          rw[e1,e2];rfl
         clear hgrow1 hown hrun hcx hkey hnx
         go_wp2
         go_roundw
         case rel=>exact⟨k+1,s::had,by omega,by go_num,hown1,R2,hok'⟩
         case measure=>simp[intOf];omega
  · have:k=l.length:=y8
    subst this
    go_wp2
    go_ret
    rw[List.drop_length] at hok;exact⟨by rw[← hok];rfl,hnx⟩
end Go.Proofs.YtlcnfnjdelmkdaaGreatDoor
namespace Go.Proofs.YtlcnfnjdelmkdaaGreatDoor
open Go.Ev Go Go.RowKit
theorem clip26 (ad:Option Addr) (len cap:Nat) (w:World) (_:len≤cap):Calls Tryz.prog 26 #[.slice ad len cap] w fun e w'=>e= .returned (.slice ad len len)∧w'=w:=by
 go_enter Tryz.func26,Tryz.ntmps26
 go_wp2
 go_ret
 exact⟨rfl,rfl⟩
theorem bodyC26:∃ c,Tryz.f26.body=some c:=aab.1 y9
theorem clip118 (ad:Option Addr) (len cap:Nat) (w:World) (_:len≤cap):Calls Tryz.prog 118 #[.slice ad len cap] w fun e w'=>e= .returned (.slice ad len len)∧w'=w:=by
 go_enter Tryz.func118,Tryz.ntmps118
 go_wp2
 go_ret
 exact⟨rfl,rfl⟩
theorem bodyC118:∃ c,Tryz.f118.body=some c:=aab.1 y9
theorem clip51 (ad:Option Addr) (len cap:Nat) (w:World) (_:len≤cap):Calls Tryz.prog 51 #[.slice ad len cap] w fun e w'=>e= .returned (.slice ad len len)∧w'=w:=by
 go_enter Tryz.func51,Tryz.ntmps51
 go_wp2
 go_ret
 exact⟨rfl,rfl⟩
theorem bodyC51:∃ c,Tryz.f51.body=some c:=aab.1 y9
theorem clip20 (ad:Option Addr) (len cap:Nat) (w:World) (_:len≤cap):Calls Tryz.prog 20 #[.slice ad len cap] w fun e w'=>e= .returned (.slice ad len len)∧w'=w:=by
 go_enter Tryz.func20,Tryz.ntmps20
 go_wp2
 go_ret
 exact⟨rfl,rfl⟩
theorem bodyC20:∃ c,Tryz.f20.body=some c:=aab.1 y9
theorem clip46 (ad:Option Addr) (len cap:Nat) (w:World) (_:len≤cap):Calls Tryz.prog 46 #[.slice ad len cap] w fun e w'=>e= .returned (.slice ad len len)∧w'=w:=by
 go_enter Tryz.func46,Tryz.ntmps46
 go_wp2
 go_ret
 exact⟨rfl,rfl⟩
theorem bodyC46:∃ c,Tryz.f46.body=some c:=aab.1 y9
theorem clip44 (ad:Option Addr) (len cap:Nat) (w:World) (_:len≤cap):Calls Tryz.prog 44 #[.slice ad len cap] w fun e w'=>e= .returned (.slice ad len len)∧w'=w:=by
 go_enter Tryz.func44,Tryz.ntmps44
 go_wp2
 go_ret
 exact⟨rfl,rfl⟩
theorem bodyC44:∃ c,Tryz.f44.body=some c:=aab.1 y9
theorem clip41 (ad:Option Addr) (len cap:Nat) (w:World) (_:len≤cap):Calls Tryz.prog 41 #[.slice ad len cap] w fun e w'=>e= .returned (.slice ad len len)∧w'=w:=by
 go_enter Tryz.func41,Tryz.ntmps41
 go_wp2
 go_ret
 exact⟨rfl,rfl⟩
theorem bodyC41:∃ c,Tryz.f41.body=some c:=aab.1 y9
theorem clip40 (ad:Option Addr) (len cap:Nat) (w:World) (_:len≤cap):Calls Tryz.prog 40 #[.slice ad len cap] w fun e w'=>e= .returned (.slice ad len len)∧w'=w:=by
 go_enter Tryz.func40,Tryz.ntmps40
 go_wp2
 go_ret
 exact⟨rfl,rfl⟩
theorem bodyC40:∃ c,Tryz.f40.body=some c:=aab.1 y9
theorem clip48 (ad:Option Addr) (len cap:Nat) (w:World) (_:len≤cap):Calls Tryz.prog 48 #[.slice ad len cap] w fun e w'=>e= .returned (.slice ad len len)∧w'=w:=by
 go_enter Tryz.func48,Tryz.ntmps48
 go_wp2
 go_ret
 exact⟨rfl,rfl⟩
theorem bodyC48:∃ c,Tryz.f48.body=some c:=aab.1 y9
theorem clip49 (ad:Option Addr) (len cap:Nat) (w:World) (_:len≤cap):Calls Tryz.prog 49 #[.slice ad len cap] w fun e w'=>e= .returned (.slice ad len len)∧w'=w:=by
 go_enter Tryz.func49,Tryz.ntmps49
 go_wp2
 go_ret
 exact⟨rfl,rfl⟩
theorem bodyC49:∃ c,Tryz.f49.body=some c:=aab.1 y9
theorem clip_ok:bt2 Tryz.prog cfg:=fun f hf=>by
 have hf':clips.contains f=true:=hf;simp only[clips,List.contains_cons,List.contains_nil,Bool.or_false,aan,aaa] at hf';rcases hf' with rfl|rfl|rfl|rfl|rfl|rfl|rfl|rfl|rfl|rfl
 · obtain⟨c,hc⟩:=bodyC26
   exact bg Tryz.func26 y9 hc clip26
 · obtain⟨c,hc⟩:=bodyC118
   exact bg Tryz.func118 y9 hc clip118
 · obtain⟨c,hc⟩:=bodyC51
   exact bg Tryz.func51 y9 hc clip51
 · obtain⟨c,hc⟩:=bodyC20
   exact bg Tryz.func20 y9 hc clip20
 · obtain⟨c,hc⟩:=bodyC46
   exact bg Tryz.func46 y9 hc clip46
 · obtain⟨c,hc⟩:=bodyC44
   exact bg Tryz.func44 y9 hc clip44
 · obtain⟨c,hc⟩:=bodyC41
   exact bg Tryz.func41 y9 hc clip41
 · obtain⟨c,hc⟩:=bodyC40
   exact bg Tryz.func40 y9 hc clip40
 · obtain⟨c,hc⟩:=bodyC48
   exact bg Tryz.func48 y9 hc clip48
 · obtain⟨c,hc⟩:=bodyC49
   exact bg Tryz.func49 y9 hc clip49
theorem follows:Tryz.prog.follows .mixedOrders=true:=y9
theorem bodyN:∃ c,Tryz.f115.body=some c:=aab.1 y9
theorem ok_names:Gives Tryz.prog cfg n_fy tw:=by
 obtain⟨c,hc⟩:=bodyN;exact au6 Tryz.func115 y9 hc bf1 fun b o c l w h1 h2 h3 h4=>bf2 b o c l w h1 h2 h3 h4
theorem bodyB:∃ c,Tryz.f81.body=some c:=aab.1 y9
theorem btm (a:Option Addr) (len cap:Nat) (w:World):Calls Tryz.prog 81 #[.slice a len cap] w fun e w'=>e= .returned (.func (.func 116) #[] #[.pointer (some ⟨w.heap.size,0,none⟩)])∧w'=w.alloc (.cells #[.slice a len cap] 72):=by
 go_enter Tryz.func81,Tryz.ntmps81
 go_wp2
 go_ret
 exact⟨rfl,rfl⟩
theorem auz:Gives Tryz.prog cfg n_d6 (xSeq n_fb):=by
 obtain⟨c,hc⟩:=bodyB;intro ds r hr F args w h1 h2 _ _;unfold xSeq at hr;split at hr
 case h_2=>cases hr
 rename_i es;cases hr;obtain⟨v,rfl,hv⟩:=be9 h1 h2;have hs:∃ a len cap,v= .slice a len cap:=by cases hv<;>exact⟨_,_,_,rfl⟩
 obtain⟨a,len,cap,rfl⟩:=hs;refine .inr ⟨jf Tryz.func81 y9 hc _ w,(btm a len cap w).mono fun e w' ⟨e1,e2⟩=> ?_⟩
 subst e1;subst e2;have hB:Below w.heap.size w (w.alloc (.cells #[.slice a len cap] 72)):=(Below.refl _ _).alloc (z8 _) _;have hcell:(w.alloc (.cells #[.slice a len cap] 72)).cell? (ad3 w.heap.size 0)=some (.slice a len cap):=by
  rw[show ad3 w.heap.size 0=⟨w.heap.size,0,none⟩ from rfl,World.cell?_alloc_new]
  rfl
 refine⟨hB.size,fun b hb=>hB.block b hb,⟨hB.os,hB.tape,hB.output⟩,[.pointer (some ⟨w.heap.size,0,none⟩)],[.ptr (.sl es)],rfl,rfl,rfl,fun i u e h3 h4=> ?_⟩
 match i,h3,h4 with
 | 0,h3,h4=>
  cases h3;cases h4;refine .ptr w.heap.size 0 (.sl es) (fun _=> .slice a len cap) (by simp[D.cells,D.isCell]) (fun j c hj=> ?_) (fun j c hj=> ?_)
  · match j,hj with
    |0,hj=>exact⟨.inr (z8 _),hcell⟩
  · match j,hj with
    | 0,hj=>
     cases hj;exact hv.mono fun b o u hb hu=>⟨.inl hb,by rw[br (hB.block b (by simpa using World.block_lt_of_cell? _ _ hu))];exact hu⟩
theorem bodyR:∃ c,Tryz.f132.body=some c:=aab.1 y9
theorem bodyM:∃ c,Tryz.f149.body=some c:=aab.1 y9
theorem bodyT:∃ c,Tryz.f148.body=some c:=aab.1 y9
theorem bodyI:∃ c,Tryz.f159.body=some c:=aab.1 y9
theorem br3:Gives Tryz.prog cfg n_ft ph:=by
 obtain⟨c,hc⟩:=bodyR;exact ani Tryz.func132 y9 hc fun s n w h0 h1=>Tryz.strings_Repeat s n w h0 h1
theorem ok_Mul64:Gives Tryz.prog cfg n_gc q9:=by
 obtain⟨c,hc⟩:=bodyM;exact au7 Tryz.func149 y9 hc fun x y w hx hy=>(Tryz.bits_Mul64 x y hx hy w).mono fun e w' ⟨e1,e2⟩=>⟨e1,by rw[e2];exact Below.refl _ _⟩
theorem ok_Trim:Gives Tryz.prog cfg n_fz xTrim:=by
 obtain⟨c,hc⟩:=bodyT;exact bf9 Tryz.func148 y9 hc fun s t w h1 h2 h3=>Tryz.strings_Trim s t w h1 h2 h3
theorem ok_Index:Gives Tryz.prog cfg n_fo ra:=by
 obtain⟨c,hc⟩:=bodyI;exact anj Tryz.func159 y9 hc fun s c w=>(Tryz.stringslite_Index_one s c w).mono fun e w' ⟨e1,e2⟩=>⟨e1,by rw[e2];exact Below.refl _ _⟩
theorem ext_ok:ExtOk Tryz.prog cfg:=extOk_of fun f g hf=>by
 have hf':exts f=some g:=hf;unfold exts at hf';split at hf'
 · rename_i e;cases hf';rw[e];exact ok_names
 split at hf'
 · rename_i e;cases hf';rw[e];exact br3
 split at hf'
 · rename_i e;cases hf';rw[e];exact ok_Trim
 split at hf'
 · rename_i e;cases hf';rw[e];exact ok_Index
 split at hf'
 · rename_i e;cases hf';rw[e];exact ok_Mul64
 split at hf'
 · rename_i e;cases hf';rw[e];exact auz
 cases hf'
theorem iter_ok:IterOk Tryz.prog cfg:=fun f g hg=>by
 have hg':iters f=some g:=hg;unfold iters at hg';split at hg'
 · rename_i e;cases hg';rw[e];exact btn
 cases hg'
theorem cfg_ok:CfgOk Tryz.prog cfg where
 intTy:=fun t h=>by cases h
 meth:=fun t n f h=>by cases h
 clip:=clip_ok
 iter:=iter_ok
theorem funcs_ok:tk Tryz.prog cfg:=fun f fn hf=>by
 have hf':fnsOf Tryz.prog tbl tab f=some fn:=hf;unfold fnsOf at hf';split at hf'
 · rename_i fn' h
   cases hf';exact tbl_ok (f,fn) (br8 h)
 · exact be8 tab_ok hf'
