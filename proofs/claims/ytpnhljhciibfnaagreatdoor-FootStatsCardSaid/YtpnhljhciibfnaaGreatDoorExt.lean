import Derived.Test.YtpnhljhciibfnaaGreatDoorCode
import Derived.Test.YtpnhljhciibfnaaGreatDoorL10
import Derived.WalkKit
import Derived.Maps.Own
import Derived.Maps.Views
import Derived.StringKeys
import Derived.Deep.LoopGhost
import Derived.Test.YtpnhljhciibfnaaGreatDoorShelf
import Derived.Shelf.Strconv.Itoa3
import Derived.Lib.AppendIntMem
import Derived.Test.YtpnhljhciibfnaaGreatDoorBak
namespace Go.Proofs.YtpnhljhciibfnaaGreatDoor
open Go Go.Ev Go.RowKit Go.WideMaps Go.Maps
theorem aog:Keyed Tryz.prog 9:=string_keyed Tryz.underlying9
theorem bgf (w:World):(zeroValue 4).run Tryz.prog w= .ok (.bool false) w:=aa2
def T9:List Tx→DataW Unit
 | []=> .map []
 |s::had=>(T9 had).put (.string s) (.lit (.bool true))
theorem aot:∀ had,IsMap (T9 had)
 | []=>⟨[],rfl⟩
 | s::had=>by
  obtain⟨es,he⟩:=aot had;rw[T9,he];exact⟨_,rfl⟩
theorem WM (x:Tx):∀ had:List Tx,(T9 had).atKey (.string x) (.lit (.bool false))= .lit (.bool (had.contains x))
 | []=>rfl
 | s::had=>by
  rw[T9];by_cases e:x=s
  · subst e
    rw[atKey_put_same (aot had) (by simp[WideAt.IsKeyLit])]
    simp
  · rw[atKey_put_other (by intro h;exact e (by simpa using h)),WM x had]
    have:(x==s)=false:=by simpa using e
    rw[List.contains_cons,this,Bool.false_or]
theorem vz {P:Program} {e:TypeId} (he:P.underlying e=some .bool) {v:Value} {x:Bool} {ps:List MemPlace} (h:plainElem (H:=Unit) P e v=some (.lit (.bool x),ps)):v= .bool x:=by
 unfold plainElem at h;rw[he] at h;cases v<;>simp at h;rw[h.1]
set_option maxRecDepth 100000 in
theorem bgg (a:Option Addr) (c:Nat) (w:World):Calls Tryz.prog 149 #[.slice a 0 c] w fun e w'=>e= .returned (.bool true)∧Below w.heap.size w w':=by
 have hmm:= @run_makeMap Tryz.prog
 go_enter Tryz.func149,Tryz.ntmps149
 go_wp2
 refine wp_loop_rounds 1 ?_;rw[rounds_succ]
 go_wp2
 go_ret
 exact⟨rfl,(Below.refl _ _).alloc (abn _) _⟩
set_option maxHeartbeats 4000000 in
set_option maxRecDepth 100000 in
theorem bgh (b o c:Nat) (l:List Tx) (w:World) (hl:l.length≤1000000) (hcap:l.length≤c) (hb:b<w.heap.size) (hc:∀ (j:Nat) x,l[j]? =some x→w.cell? ⟨b,o+j,none⟩=some (.string ⟨x.toArray⟩)):
  Calls Tryz.prog 149 #[.slice (some ⟨b,o,none⟩) l.length c] w fun e w'=>e= .returned (.bool (ev [] l))∧Below w.heap.size w w':=by
 have hmm:= @run_makeMap Tryz.prog;have HC:Aside (∀ (j:Nat) x,l[j]? =some x→w.cell? ⟨b,o+j,none⟩=some (.string ⟨x.toArray⟩)):=hc
 clear hc
 go_enter Tryz.func149,Tryz.ntmps149
 go_wp2
 go_loopw [9] (fun i wr=>∃ (k:Nat) (had:List Tx),k≤l.length∧i= .int .i64 k∧wr.ownsMap Tryz.prog 9 (plainElem Tryz.prog 4) w.heap.size k (T9 had)∧Below w.heap.size w wr∧ev had (l.drop k)=ev [] l)
  (fun i _=>l.length-(intOf i).toNat)
 case atStart=>exact⟨0,[],acj _,rfl,World.ownsMap_made _ _ _ _,(Below.refl _ _).alloc (abn _) _,rfl⟩
 case round=>
  obtain⟨k,had,hk,rfl,hown,hnx,hok⟩:=hrel;by_cases hlt:k<l.length
  · obtain⟨s,hs⟩:∃ s,l[k]? =some s:=⟨_,abd hlt⟩
    have hcx:wr.cell? ⟨b,o+k,none⟩=some (.string ⟨s.toArray⟩):=(hnx.cell (by exact hb)).trans (HC.out k s hs)
    have hdrop:l.drop k=s::l.drop (k+1):=by
      rw[act hlt];rw[abd hlt] at hs;cases hs;rfl
    rw[hdrop,ev] at hok;have OK:Aside ((!(s.isEmpty||decide (100<s.length)||had.contains s)&&ev (s::had) (l.drop (k+1)))=ev [] l):=hok;clear hs hdrop hok;by_cases h1:s=[]
    · subst h1
      go_wp2
      go_ret
      refine⟨?_,hnx⟩;rw[← OK.out];rfl
    · have hne:(⟨s.toArray⟩:ByteArray)≠⟨#[]⟩:=fun e=>h1 (by have:=congrArg (·.data.toList) e;simpa using this)
      by_cases h2:100<s.length
      · go_wp2
        go_ret
        refine⟨?_,hnx⟩;rw[← OK.out];have:decide (100<s.length)=true:=by simpa using h2
        rw[this];simp
      · have hkey:keyOf Tryz.prog 9 (.string ⟨s.toArray⟩)=some (.string s):=by
         have:=keyOf_string_mk (P:=Tryz.prog) (k:=9) Tryz.underlying9 (s:=⟨s.toArray⟩) (by unfold maxLen;simp[ByteArray.size];omega)
         simpa using this
        obtain⟨v,ps,hrun,hv⟩:=hown.lookup aog Tryz.underlying242 (bgf wr) (plainElem_bool Tryz.underlying4 false) hkey;rw[WM] at hv;obtain rfl:=vz Tryz.underlying4 hv;have e1:s.isEmpty=false:=by simpa using h1
        have e2:decide (100<(s.length:Int))=false:=by simp;omega
        cases hcn:had.contains s with
        | true=>
         rw[hcn] at hrun
         go_wp2
         go_ret
         refine⟨?_,hnx⟩;rw[← OK.out,hcn];simp
        | false=>
         rw[hcn] at hrun
         go_wp2_with (first
          | (at_mapUpdate;refine wpList_mapUpdate_own _ rfl _ _ _ 242 rfl 9 4 aog Tryz.underlying242 _ w.heap.size k _ rfl hown (by unfold maxLen;omega) _ _ _ rfl rfl hkey _ [] (plainElem_bool Tryz.underlying4 true) ?_)
          |go_in)
         intro w1 hown1 hgrow1;have R2:=hnx.grown hgrow1 hnx.size (fun j hj=>by cases hj;exact abn _)
         have hok':ev (s::had) (l.drop (k+1))=ev [] l:=by
          rw[← OK.out,hcn];have e1:s.isEmpty=false:=by simpa using h1
          have e2:decide (100<s.length)=false:=by simpa using h2
          rw[e1,e2];rfl
         clear hgrow1 hown hrun hcx hkey hnx
         go_wp2
         go_roundw
         case rel=>exact⟨k+1,s::had,by omega,by go_num,hown1,R2,hok'⟩
         case measure=>simp[intOf];omega
  · have:k=l.length:=aa1
    subst this
    go_wp2
    go_ret
    rw[List.drop_length] at hok;exact⟨by rw[← hok];rfl,hnx⟩
end Go.Proofs.YtpnhljhciibfnaaGreatDoor
namespace Go.Proofs.YtpnhljhciibfnaaGreatDoor
open Go Go.Ev Go.RowKit Go.Lib Go.Sort
set_option maxHeartbeats 1000000
set_option maxRecDepth 100000
theorem bgt (i:Nat) (hi:i<100) (w:World):Calls Tryz.prog 157 #[.int .u64 i,.int .i64 10] w fun e w'=>e= .returned (.string ⟨(Lib.decDigits i).toArray⟩)∧w'=w:=by
 have e65:∀ args w,(callFunc 172 args).run Tryz.prog w= .ok (.enter 172 args) w:=enters_of Tryz.func172 aa2 rfl
 have e66:∀ args w,(callFunc 173 args).run Tryz.prog w= .ok (.enter 173 args) w:=enters_of Tryz.func173 aa2 rfl
 have e67:∀ args w,(callFunc 174 args).run Tryz.prog w= .ok (.enter 174 args) w:=enters_of Tryz.func174 aa2 rfl
 go_enter Tryz.func157,Tryz.ntmps157
 go_wp2_with (go_at_fn 172;refine(Tryz.internal_strconv_small i hi _).mono ?_;rintro e w' ⟨rfl,rfl⟩)
 go_ret
 exact⟨rfl,rfl⟩
theorem Wg (u:Nat) (h1:100≤u) (hu64:u<18446744073709551616) (w:World) (htab:Lib.TabIs Tryz.prog w "internal/strconv.uint64pow10" .u64 Lib.pow10Tab):
  Calls Tryz.prog 157 #[.int .u64 u,.int .i64 10] w fun e w'=>e= .returned (.string ⟨(Lib.decDigits u).toArray⟩)∧∃ k os,w'=grow (w.drewN k) os:=by
 have hu1:1≤u:=aa1;have hnd20:Lib.nDigits u≤20:=by have:=Lib.numDigits_eq u hu1 hu64;split at this<;>omega
 have hb3:Lib.nDigits u≤23:=aa1;have hal:Tryz.prog.arrayLen 247=24:=aa2;have hsl1:∀ W,(Instr.sliceAt 247 (.pointer (some ⟨w.heap.size,0,none⟩)) none (some (.int .i64 (Lib.nDigits u:Int))) none).run Tryz.prog W= .ok (.slice (some ⟨w.heap.size,0,none⟩) (Lib.nDigits u) 24) W:=fun W=>by
  rw[run_sliceAt_array_h W 247 ⟨w.heap.size,0,none⟩ aa2 .i64 (Lib.nDigits u:Int) aa1 (by rw[hal];omega)]
  go_simp
 have hH0:=Lib.holds_zero0 w 247 (Lib.nDigits u) aa1;have HH0:=Lib.hid hH0;have hfmt:=Tryz.internal_strconv_formatBase10 w.heap.size 0 24 u (Array.replicate (Lib.nDigits u) 0) (w.alloc (.cells Lib.zeros24 247)) hH0 (by rw[Array.size_replicate];exact Lib.lt_pow_nDigits u) hu64 (by rw[Array.size_replicate];omega)
 rw[Array.size_replicate] at hfmt;have e65:∀ args w,(callFunc 172 args).run Tryz.prog w= .ok (.enter 172 args) w:=enters_of Tryz.func172 aa2 rfl
 have e66:∀ args w,(callFunc 173 args).run Tryz.prog w= .ok (.enter 173 args) w:=enters_of Tryz.func173 aa2 rfl
 have e67:∀ args w,(callFunc 174 args).run Tryz.prog w= .ok (.enter 174 args) w:=enters_of Tryz.func174 aa2 rfl
 go_enter Tryz.func157,Tryz.ntmps157
 go_wp2_with (first
  | (go_at_fn 173;refine(Tryz.internal_strconv_numDigits u hu1 hu64 _ (Lib.tabIs_alloc htab _)).mono ?_;rintro e w' ⟨rfl,rfl⟩))
 go_at_fn 174
 refine hfmt.mono ?_
 rintro e w' ⟨rfl,k,v',dk,rfl,hF⟩
 have hcv:(convert 26 9 (.slice (some ⟨w.heap.size,0,none⟩) (Lib.nDigits u) 24)).run Tryz.prog ((putRow (fun(b:UInt8)=>Value.int .u8 (b.toNat:Int)) (w.alloc (.cells Lib.zeros24 247)) w.heap.size 0 dk).drewN k)= .ok (.string ⟨(Lib.decDigits u).toArray⟩) ((putRow (fun(b:UInt8)=>Value.int .u8 (b.toNat:Int)) (w.alloc (.cells Lib.zeros24 247)) w.heap.size 0 dk).drewN k):=by
  have h:=run_convert_bytes_back (P:=Tryz.prog) ((putRow (fun(b:UInt8)=>Value.int .u8 (b.toNat:Int)) (w.alloc (.cells Lib.zeros24 247)) w.heap.size 0 dk).drewN k) 26 9 5 ⟨w.heap.size,0,none⟩ 24 (Lib.decDigits u) aa2 aa2 aa2 (fun j hj=>by
   rw[Lib.row_is_numeral hF j hj,Lib.add_plain,World.cell?_drewN];exact cell?_putRow (fun(b:UInt8)=>Value.int .u8 (b.toNat:Int)) _ w.heap.size 0 _ dk HH0.out (by rw[hF.size,Array.size_replicate]) j (by rw[hF.size];rw[Lib.decDigits_length] at hj;exact hj))
  rw[Lib.decDigits_length] at h;exact h
 go_wp2
 go_ret
 obtain⟨os,eo⟩:=Lib.fin_at w (.cells Lib.zeros24 247) dk k 0;exact⟨rfl,k,os,eo⟩
theorem fmtU (u:Nat) (hu64:u<18446744073709551616) (w:World) (htab:Lib.TabIs Tryz.prog w "internal/strconv.uint64pow10" .u64 Lib.pow10Tab):
  Calls Tryz.prog 142 #[.int .u64 u,.int .i64 10] w fun e w'=>e= .returned (.string ⟨(Lib.decDigits u).toArray⟩)∧Below w.heap.size w w':=by
 have h53:Calls Tryz.prog 157 #[.int .u64 u,.int .i64 10] w fun e w'=>e= .returned (.string ⟨(Lib.decDigits u).toArray⟩)∧Below w.heap.size w w':=by
  by_cases c:u<100
  · refine(bgt u c w).mono fun e w' ⟨e1,e2⟩=>⟨e1,?_⟩
    rw[e2];exact Below.refl _ _
  · refine(Wg u aa1 hu64 w htab).mono fun e w' ⟨e1,k,os,e2⟩=>⟨e1,?_⟩
    rw[e2];exact Lib.below_grow _ w (abn _) k os
 have e53:∀ args w,(callFunc 157 args).run Tryz.prog w= .ok (.enter 157 args) w:=enters_of Tryz.func157 aa2 rfl
 go_enter Tryz.func142,Tryz.ntmps142
 go_wp2_with (go_at_fn 157;refine h53.mono ?_;rintro e w' ⟨rfl,hw⟩)
 go_ret
 exact⟨rfl,hw⟩
end Go.Proofs.YtpnhljhciibfnaaGreatDoor
namespace Go.Proofs.YtpnhljhciibfnaaGreatDoor
open Go.Ev Go Go.RowKit
theorem Zb (ad:Option Addr) (len cap:Nat) (w:World) (_:len≤cap):Calls Tryz.prog 124 #[.slice ad len cap] w fun e w'=>e= .returned (.slice ad len len)∧w'=w:=by
 go_enter Tryz.func124,Tryz.ntmps124
 go_wp2
 go_ret
 exact⟨rfl,rfl⟩
theorem Xa:∃ c,Tryz.f124.body=some c:=abq.1 aa2
theorem Zc (ad:Option Addr) (len cap:Nat) (w:World) (_:len≤cap):Calls Tryz.prog 123 #[.slice ad len cap] w fun e w'=>e= .returned (.slice ad len len)∧w'=w:=by
 go_enter Tryz.func123,Tryz.ntmps123
 go_wp2
 go_ret
 exact⟨rfl,rfl⟩
theorem Xb:∃ c,Tryz.f123.body=some c:=abq.1 aa2
theorem ZY (ad:Option Addr) (len cap:Nat) (w:World) (_:len≤cap):Calls Tryz.prog 166 #[.slice ad len cap] w fun e w'=>e= .returned (.slice ad len len)∧w'=w:=by
 go_enter Tryz.func166,Tryz.ntmps166
 go_wp2
 go_ret
 exact⟨rfl,rfl⟩
theorem XX:∃ c,Tryz.f166.body=some c:=abq.1 aa2
theorem ZZ (ad:Option Addr) (len cap:Nat) (w:World) (_:len≤cap):Calls Tryz.prog 165 #[.slice ad len cap] w fun e w'=>e= .returned (.slice ad len len)∧w'=w:=by
 go_enter Tryz.func165,Tryz.ntmps165
 go_wp2
 go_ret
 exact⟨rfl,rfl⟩
theorem XY:∃ c,Tryz.f165.body=some c:=abq.1 aa2
theorem Za (ad:Option Addr) (len cap:Nat) (w:World) (_:len≤cap):Calls Tryz.prog 130 #[.slice ad len cap] w fun e w'=>e= .returned (.slice ad len len)∧w'=w:=by
 go_enter Tryz.func130,Tryz.ntmps130
 go_wp2
 go_ret
 exact⟨rfl,rfl⟩
theorem XZ:∃ c,Tryz.f130.body=some c:=abq.1 aa2
theorem Zd (ad:Option Addr) (len cap:Nat) (w:World) (_:len≤cap):Calls Tryz.prog 120 #[.slice ad len cap] w fun e w'=>e= .returned (.slice ad len len)∧w'=w:=by
 go_enter Tryz.func120,Tryz.ntmps120
 go_wp2
 go_ret
 exact⟨rfl,rfl⟩
theorem Xc:∃ c,Tryz.f120.body=some c:=abq.1 aa2
theorem nG (ad:Option Addr) (len cap:Nat) (w:World) (_:len≤cap):Calls Tryz.prog 83 #[.slice ad len cap] w fun e w'=>e= .returned (.slice ad len len)∧w'=w:=by
 go_enter Tryz.func83,Tryz.ntmps83
 go_wp2
 go_ret
 exact⟨rfl,rfl⟩
theorem bF:∃ c,Tryz.f83.body=some c:=abq.1 aa2
theorem nF (ad:Option Addr) (len cap:Nat) (w:World) (_:len≤cap):Calls Tryz.prog 85 #[.slice ad len cap] w fun e w'=>e= .returned (.slice ad len len)∧w'=w:=by
 go_enter Tryz.func85,Tryz.ntmps85
 go_wp2
 go_ret
 exact⟨rfl,rfl⟩
theorem bE:∃ c,Tryz.f85.body=some c:=abq.1 aa2
theorem nJ (ad:Option Addr) (len cap:Nat) (w:World) (_:len≤cap):Calls Tryz.prog 34 #[.slice ad len cap] w fun e w'=>e= .returned (.slice ad len len)∧w'=w:=by
 go_enter Tryz.func34,Tryz.ntmps34
 go_wp2
 go_ret
 exact⟨rfl,rfl⟩
theorem bI:∃ c,Tryz.f34.body=some c:=abq.1 aa2
theorem nH (ad:Option Addr) (len cap:Nat) (w:World) (_:len≤cap):Calls Tryz.prog 81 #[.slice ad len cap] w fun e w'=>e= .returned (.slice ad len len)∧w'=w:=by
 go_enter Tryz.func81,Tryz.ntmps81
 go_wp2
 go_ret
 exact⟨rfl,rfl⟩
theorem bG:∃ c,Tryz.f81.body=some c:=abq.1 aa2
theorem nI (ad:Option Addr) (len cap:Nat) (w:World) (_:len≤cap):Calls Tryz.prog 79 #[.slice ad len cap] w fun e w'=>e= .returned (.slice ad len len)∧w'=w:=by
 go_enter Tryz.func79,Tryz.ntmps79
 go_wp2
 go_ret
 exact⟨rfl,rfl⟩
theorem bH:∃ c,Tryz.f79.body=some c:=abq.1 aa2
theorem ZX:bt4 Tryz.prog cfg:=fun f hf=>by
 have hf':W6.contains f=true:=hf;simp only[W6,List.contains_cons,List.contains_nil,Bool.or_false,ab4,abm] at hf';rcases hf' with rfl|rfl|rfl|rfl|rfl|rfl|rfl|rfl|rfl|rfl|rfl
 · obtain⟨c,hc⟩:=Xa
   exact bd Tryz.func124 aa2 hc Zb
 · obtain⟨c,hc⟩:=Xb
   exact bd Tryz.func123 aa2 hc Zc
 · obtain⟨c,hc⟩:=XX
   exact bd Tryz.func166 aa2 hc ZY
 · obtain⟨c,hc⟩:=XY
   exact bd Tryz.func165 aa2 hc ZZ
 · obtain⟨c,hc⟩:=XZ
   exact bd Tryz.func130 aa2 hc Za
 · obtain⟨c,hc⟩:=Xc
   exact bd Tryz.func120 aa2 hc Zd
 · obtain⟨c,hc⟩:=bF
   exact bd Tryz.func83 aa2 hc nG
 · obtain⟨c,hc⟩:=bE
   exact bd Tryz.func85 aa2 hc nF
 · obtain⟨c,hc⟩:=bI
   exact bd Tryz.func34 aa2 hc nJ
 · obtain⟨c,hc⟩:=bG
   exact bd Tryz.func81 aa2 hc nH
 · obtain⟨c,hc⟩:=bH
   exact bd Tryz.func79 aa2 hc nI
theorem follows:Tryz.prog.follows .mixedOrders=true:=aa2
theorem bodyN:∃ c,Tryz.f149.body=some c:=abq.1 aa2
theorem Vv:DG Tryz.prog cfg TE v8:=by
 obtain⟨c,hc⟩:=bodyN;exact avf Tryz.func149 aa2 hc bgg fun b o c l w h1 h2 h3 h4=>bgh b o c l w h1 h2 h3 h4
theorem bodyB:∃ c,Tryz.f128.body=some c:=abq.1 aa2
theorem bto (a:Option Addr) (len cap:Nat) (w:World):Calls Tryz.prog 128 #[.slice a len cap] w fun e w'=>e= .returned (.func (.func 150) #[] #[.pointer (some ⟨w.heap.size,0,none⟩)])∧w'=w.alloc (.cells #[.slice a len cap] 92):=by
 go_enter Tryz.func128,Tryz.ntmps128
 go_wp2
 go_ret
 exact⟨rfl,rfl⟩
theorem au8:DG Tryz.prog cfg TQ (UX Rc):=by
 obtain⟨c,hc⟩:=bodyB;intro ds r hr F args w h1 h2 _ _;unfold UX at hr;split at hr
 case h_2=>cases hr
 rename_i es;cases hr;obtain⟨v,rfl,hv⟩:=bfo h1 h2;have hs:∃ a len cap,v= .slice a len cap:=by cases hv<;>exact⟨_,_,_,rfl⟩
 obtain⟨a,len,cap,rfl⟩:=hs;refine .inr ⟨jx Tryz.func128 aa2 hc _ w,(bto a len cap w).mono fun e w' ⟨e1,e2⟩=> ?_⟩
 subst e1;subst e2;have hB:Below w.heap.size w (w.alloc (.cells #[.slice a len cap] 92)):=(Below.refl _ _).alloc (abn _) _;have hcell:(w.alloc (.cells #[.slice a len cap] 92)).cell? (ad3 w.heap.size 0)=some (.slice a len cap):=by
  rw[show ad3 w.heap.size 0=⟨w.heap.size,0,none⟩ from rfl,World.cell?_alloc_new]
  rfl
 refine⟨hB.size,fun b hb=>hB.block b hb,⟨hB.os,hB.tape,hB.output⟩,[.pointer (some ⟨w.heap.size,0,none⟩)],[.ptr (.sl es)],rfl,rfl,rfl,fun i u e h3 h4=> ?_⟩
 match i,h3,h4 with
 | 0,h3,h4=>
  cases h3;cases h4;refine .ptr w.heap.size 0 (.sl es) (fun _=> .slice a len cap) (by simp[D.cells,D.AW]) (fun j c hj=> ?_) (fun j c hj=> ?_)
  · match j,hj with
    |0,hj=>exact⟨.inr (abn _),hcell⟩
  · match j,hj with
    | 0,hj=>
     cases hj;exact hv.mono fun b o u hb hu=>⟨.inl hb,by rw[bw (hB.block b (by simpa using World.block_lt_of_cell? _ _ hu))];exact hu⟩
theorem bodyF:∃ c,Tryz.f142.body=some c:=abq.1 aa2
theorem bodyR:∃ c,Tryz.f144.body=some c:=abq.1 aa2
theorem bodyM:∃ c,Tryz.f170.body=some c:=abq.1 aa2
theorem bodyT:∃ c,Tryz.f169.body=some c:=abq.1 aa2
theorem bodyI:∃ c,Tryz.f180.body=some c:=abq.1 aa2
theorem eC {w:World} (h:∀ n ob,cfg.B1 n=some ob→Bo w n ob):Lib.TabIs Tryz.prog w "internal/strconv.uint64pow10" .u64 Lib.pow10Tab:=by
 obtain⟨t,fr,e⟩:=h 0 Vo rfl;have hn:Tryz.prog.globalNamed "internal/strconv.uint64pow10"= some 0:=aa2;unfold Lib.TabIs World.var?;rw[hn];simp only[Option.bind_some,e];rfl
theorem zj:DG Tryz.prog cfg V5 HB:=by
 obtain⟨c,hc⟩:=bodyF;exact bgo Tryz.func142 aa2 hc fun n w h hg=>fmtU n h w (eC hg)
theorem br7:DG Tryz.prog cfg TF qj:=by
 obtain⟨c,hc⟩:=bodyR;exact aox Tryz.func144 aa2 hc fun s n w h0 h1=>Tryz.strings_Repeat s n w h0 h1
theorem Vw:DG Tryz.prog cfg V1 sz:=by
 obtain⟨c,hc⟩:=bodyM;exact avg Tryz.func170 aa2 hc fun x y w hx hy=>(Tryz.bits_Mul64 x y hx hy w).mono fun e w' ⟨e1,e2⟩=>⟨e1,by rw[e2];exact Below.refl _ _⟩
theorem Yl:DG Tryz.prog cfg V2 HA:=by
 obtain⟨c,hc⟩:=bodyT;exact bgn Tryz.func169 aa2 hc fun s t w h1 h2 h3=>Tryz.HO s t w h1 h2 h3
theorem Vx:DG Tryz.prog cfg V3 s7:=by
 obtain⟨c,hc⟩:=bodyI;exact aoy Tryz.func180 aa2 hc fun s c w=>(Tryz.stringslite_Index_one s c w).mono fun e w' ⟨e1,e2⟩=>⟨e1,by rw[e2];exact Below.refl _ _⟩
theorem SH:Gt Tryz.prog cfg:=Wl fun f g hf=>by
 have hf':exts f=some g:=hf;unfold exts at hf';split at hf'
 · rename_i e;cases hf';rw[e];exact Vv
 split at hf'
 · rename_i e;cases hf';rw[e];exact zj
 split at hf'
 · rename_i e;cases hf';rw[e];exact br7
 split at hf'
 · rename_i e;cases hf';rw[e];exact Yl
 split at hf'
 · rename_i e;cases hf';rw[e];exact Vx
 split at hf'
 · rename_i e;cases hf';rw[e];exact Vw
 split at hf'
 · rename_i e;cases hf';rw[e];exact au8
 cases hf'
theorem Y3:Xv Tryz.prog cfg:=fun f g hg=>by
 have hg':WI f=some g:=hg;unfold WI at hg';split at hg'
 · rename_i e;cases hg';rw[e];exact btp
 cases hg'
theorem nM:CF Tryz.prog cfg where
 HF:=fun t h=>by cases h
 R7:=fun t n f h=>by cases h
 clip:=ZX
 iter:=Y3
theorem Wd:vu Tryz.prog cfg:=fun f fn hf=>by
 have hf':Wf Tryz.prog tbl tab f=some fn:=hf;unfold Wf at hf';split at hf'
 · rename_i fn' h
   cases hf';exact eA (f,fn) (bsd h)
 · exact bfn eB hf'
