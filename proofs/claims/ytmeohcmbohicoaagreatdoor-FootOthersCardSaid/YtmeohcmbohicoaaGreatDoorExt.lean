import Derived.Test.YtmeohcmbohicoaaGreatDoorNam
import Derived.Test.YtmeohcmbohicoaaGreatDoorBak
import Derived.Test.YtmeohcmbohicoaaGreatDoorFlD
namespace Go.Proofs.YtmeohcmbohicoaaGreatDoor
open Go.Ev Go Go.RowKit
theorem clip68 (ad:Option Addr) (len cap:Nat) (w:World) (_:len≤cap):Calls Tryz.prog 68 #[.slice ad len cap] w fun e w'=>e= .returned (.slice ad len len)∧w'=w:=by
 go_enter Tryz.func68,Tryz.ntmps68
 go_wp2
 go_ret
 exact⟨rfl,rfl⟩
theorem bodyC68:∃ c,Tryz.f68.body=some c:=wo.1 vo
theorem clip67 (ad:Option Addr) (len cap:Nat) (w:World) (_:len≤cap):Calls Tryz.prog 67 #[.slice ad len cap] w fun e w'=>e= .returned (.slice ad len len)∧w'=w:=by
 go_enter Tryz.func67,Tryz.ntmps67
 go_wp2
 go_ret
 exact⟨rfl,rfl⟩
theorem bodyC67:∃ c,Tryz.f67.body=some c:=wo.1 vo
theorem clip122 (ad:Option Addr) (len cap:Nat) (w:World) (_:len≤cap):Calls Tryz.prog 122 #[.slice ad len cap] w fun e w'=>e= .returned (.slice ad len len)∧w'=w:=by
 go_enter Tryz.func122,Tryz.ntmps122
 go_wp2
 go_ret
 exact⟨rfl,rfl⟩
theorem bodyC122:∃ c,Tryz.f122.body=some c:=wo.1 vo
theorem clip121 (ad:Option Addr) (len cap:Nat) (w:World) (_:len≤cap):Calls Tryz.prog 121 #[.slice ad len cap] w fun e w'=>e= .returned (.slice ad len len)∧w'=w:=by
 go_enter Tryz.func121,Tryz.ntmps121
 go_wp2
 go_ret
 exact⟨rfl,rfl⟩
theorem bodyC121:∃ c,Tryz.f121.body=some c:=wo.1 vo
theorem clip108 (ad:Option Addr) (len cap:Nat) (w:World) (_:len≤cap):Calls Tryz.prog 108 #[.slice ad len cap] w fun e w'=>e= .returned (.slice ad len len)∧w'=w:=by
 go_enter Tryz.func108,Tryz.ntmps108
 go_wp2
 go_ret
 exact⟨rfl,rfl⟩
theorem bodyC108:∃ c,Tryz.f108.body=some c:=wo.1 vo
theorem clip64 (ad:Option Addr) (len cap:Nat) (w:World) (_:len≤cap):Calls Tryz.prog 64 #[.slice ad len cap] w fun e w'=>e= .returned (.slice ad len len)∧w'=w:=by
 go_enter Tryz.func64,Tryz.ntmps64
 go_wp2
 go_ret
 exact⟨rfl,rfl⟩
theorem bodyC64:∃ c,Tryz.f64.body=some c:=wo.1 vo
theorem clip63 (ad:Option Addr) (len cap:Nat) (w:World) (_:len≤cap):Calls Tryz.prog 63 #[.slice ad len cap] w fun e w'=>e= .returned (.slice ad len len)∧w'=w:=by
 go_enter Tryz.func63,Tryz.ntmps63
 go_wp2
 go_ret
 exact⟨rfl,rfl⟩
theorem bodyC63:∃ c,Tryz.f63.body=some c:=wo.1 vo
theorem clip72 (ad:Option Addr) (len cap:Nat) (w:World) (_:len≤cap):Calls Tryz.prog 72 #[.slice ad len cap] w fun e w'=>e= .returned (.slice ad len len)∧w'=w:=by
 go_enter Tryz.func72,Tryz.ntmps72
 go_wp2
 go_ret
 exact⟨rfl,rfl⟩
theorem bodyC72:∃ c,Tryz.f72.body=some c:=wo.1 vo
theorem clip28 (ad:Option Addr) (len cap:Nat) (w:World) (_:len≤cap):Calls Tryz.prog 28 #[.slice ad len cap] w fun e w'=>e= .returned (.slice ad len len)∧w'=w:=by
 go_enter Tryz.func28,Tryz.ntmps28
 go_wp2
 go_ret
 exact⟨rfl,rfl⟩
theorem bodyC28:∃ c,Tryz.f28.body=some c:=wo.1 vo
theorem clip61 (ad:Option Addr) (len cap:Nat) (w:World) (_:len≤cap):Calls Tryz.prog 61 #[.slice ad len cap] w fun e w'=>e= .returned (.slice ad len len)∧w'=w:=by
 go_enter Tryz.func61,Tryz.ntmps61
 go_wp2
 go_ret
 exact⟨rfl,rfl⟩
theorem bodyC61:∃ c,Tryz.f61.body=some c:=wo.1 vo
theorem clip59 (ad:Option Addr) (len cap:Nat) (w:World) (_:len≤cap):Calls Tryz.prog 59 #[.slice ad len cap] w fun e w'=>e= .returned (.slice ad len len)∧w'=w:=by
 go_enter Tryz.func59,Tryz.ntmps59
 go_wp2
 go_ret
 exact⟨rfl,rfl⟩
theorem bodyC59:∃ c,Tryz.f59.body=some c:=wo.1 vo
theorem clip_ok:a8y Tryz.prog cfg:=fun f hf=>by
 have hf':clips.contains f=true:=hf;simp only[clips,List.contains_cons,List.contains_nil,Bool.or_false,xg,xj] at hf';rcases hf' with rfl|rfl|rfl|rfl|rfl|rfl|rfl|rfl|rfl|rfl|rfl
 · obtain⟨c,hc⟩:=bodyC68
   exact a4 Tryz.func68 vo hc clip68
 · obtain⟨c,hc⟩:=bodyC67
   exact a4 Tryz.func67 vo hc clip67
 · obtain⟨c,hc⟩:=bodyC122
   exact a4 Tryz.func122 vo hc clip122
 · obtain⟨c,hc⟩:=bodyC121
   exact a4 Tryz.func121 vo hc clip121
 · obtain⟨c,hc⟩:=bodyC108
   exact a4 Tryz.func108 vo hc clip108
 · obtain⟨c,hc⟩:=bodyC64
   exact a4 Tryz.func64 vo hc clip64
 · obtain⟨c,hc⟩:=bodyC63
   exact a4 Tryz.func63 vo hc clip63
 · obtain⟨c,hc⟩:=bodyC72
   exact a4 Tryz.func72 vo hc clip72
 · obtain⟨c,hc⟩:=bodyC28
   exact a4 Tryz.func28 vo hc clip28
 · obtain⟨c,hc⟩:=bodyC61
   exact a4 Tryz.func61 vo hc clip61
 · obtain⟨c,hc⟩:=bodyC59
   exact a4 Tryz.func59 vo hc clip59
theorem follows:Tryz.prog.follows .mixedOrders=true:=vo
theorem bodyN:∃ c,Tryz.f120.body=some c:=wo.1 vo
theorem ok_names:Gives Tryz.prog cfg n_df qu:=by
 obtain⟨c,hc⟩:=bodyN;exact ajx Tryz.func120 vo hc av3 fun b o c l w h1 h2 h3 h4=>av4 b o c l w h1 h2 h3 h4
theorem bodyB:∃ c,Tryz.f106.body=some c:=wo.1 vo
theorem a8j (a:Option Addr) (len cap:Nat) (w:World):Calls Tryz.prog 106 #[.slice a len cap] w fun e w'=>e= .returned (.func (.func 124) #[] #[.pointer (some ⟨w.heap.size,0,none⟩)])∧w'=w.alloc (.cells #[.slice a len cap] 90):=by
 go_enter Tryz.func106,Tryz.ntmps106
 go_wp2
 go_ret
 exact⟨rfl,rfl⟩
theorem ajr:Gives Tryz.prog cfg n_b7 (xSeq n_cm):=by
 obtain⟨c,hc⟩:=bodyB;intro ds r hr F args w h1 h2 _ _;unfold xSeq at hr;split at hr
 case h_2=>cases hr
 rename_i es;cases hr;obtain⟨v,rfl,hv⟩:=avf h1 h2;have hs:∃ a len cap,v= .slice a len cap:=by cases hv<;>exact⟨_,_,_,rfl⟩
 obtain⟨a,len,cap,rfl⟩:=hs;refine .inr ⟨eq Tryz.func106 vo hc _ w,(a8j a len cap w).mono fun e w' ⟨e1,e2⟩=> ?_⟩
 subst e1;subst e2;have hB:Below w.heap.size w (w.alloc (.cells #[.slice a len cap] 90)):=(Below.refl _ _).alloc (wa _) _;have hcell:(w.alloc (.cells #[.slice a len cap] 90)).cell? (ad3 w.heap.size 0)=some (.slice a len cap):=by
  rw[show ad3 w.heap.size 0=⟨w.heap.size,0,none⟩ from rfl,World.cell?_alloc_new]
  rfl
 refine⟨hB.size,fun b hb=>hB.block b hb,⟨hB.os,hB.tape,hB.output⟩,[.pointer (some ⟨w.heap.size,0,none⟩)],[.ptr (.sl es)],rfl,rfl,rfl,fun i u e h3 h4=> ?_⟩
 match i,h3,h4 with
 | 0,h3,h4=>
  cases h3;cases h4;refine .ptr w.heap.size 0 (.sl es) (fun _=> .slice a len cap) (by simp[D.cells,D.isCell]) (fun j c hj=> ?_) (fun j c hj=> ?_)
  · match j,hj with
    |0,hj=>exact⟨.inr (wa _),hcell⟩
  · match j,hj with
    | 0,hj=>
     cases hj;exact hv.mono fun b o u hb hu=>⟨.inl hb,by rw[bh (hB.block b (by simpa using World.block_lt_of_cell? _ _ hu))];exact hu⟩
theorem ext_ok:ExtOk Tryz.prog cfg:=extOk_of fun f g hf=>by
 have hf':exts f=some g:=hf;unfold exts at hf';split at hf'
 · rename_i e;cases hf';rw[e];exact ok_names
 split at hf'
 · rename_i e;cases hf';rw[e];exact awa
 split at hf'
 · rename_i e;cases hf';rw[e];exact ajr
 cases hf'
theorem iter_ok:IterOk Tryz.prog cfg:=fun f g hg=>by
 have hg':iters f=some g:=hg;unfold iters at hg';split at hg'
 · rename_i e;cases hg';rw[e];exact a8k
 cases hg'
theorem cfg_ok:CfgOk Tryz.prog cfg where
 intTy:=fun t h=>by cases h
 meth:=fun t n f h=>by cases h
 clip:=clip_ok
 iter:=iter_ok
theorem funcs_ok:qm Tryz.prog cfg:=fun f fn hf=>by
 have hf':fnsOf Tryz.prog tbl tab f=some fn:=hf;unfold fnsOf at hf';split at hf'
 · rename_i fn' h
   cases hf';exact tbl_ok (f,fn) (a6z h)
 · exact ave tab_ok hf'
