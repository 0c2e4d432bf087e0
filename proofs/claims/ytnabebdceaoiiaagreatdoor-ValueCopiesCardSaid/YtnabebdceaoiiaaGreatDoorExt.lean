/- The evaluator over this program is sound: the contracts of the functions that it takes as they are. -/
import Derived.Test.YtnabebdceaoiiaaGreatDoorNam
import Derived.Test.YtnabebdceaoiiaaGreatDoorShelf
import Derived.Test.YtnabebdceaoiiaaGreatDoorFlD
import Derived.Test.YtnabebdceaoiiaaGreatDoorClD
namespace Go.Proofs.YtnabebdceaoiiaaGreatDoor
open Go.Ev Go Go.RowKit

theorem clip55 (ad : Option Addr) (len cap : Nat) (w : World) (_ : len ≤ cap) : Calls Tryz.prog 55 #[.slice ad len cap] w fun e w' => e = .returned (.slice ad len len) ∧ w' = w := by
  go_enter Tryz.func55, Tryz.ntmps55
  go_wp2
  go_ret
  exact ⟨rfl, rfl⟩
theorem bodyC55 : ∃ c, Tryz.f55.body = some c := Option.isSome_iff_exists.1 (by kernel_rfl)
theorem clip53 (ad : Option Addr) (len cap : Nat) (w : World) (_ : len ≤ cap) : Calls Tryz.prog 53 #[.slice ad len cap] w fun e w' => e = .returned (.slice ad len len) ∧ w' = w := by
  go_enter Tryz.func53, Tryz.ntmps53
  go_wp2
  go_ret
  exact ⟨rfl, rfl⟩
theorem bodyC53 : ∃ c, Tryz.f53.body = some c := Option.isSome_iff_exists.1 (by kernel_rfl)
theorem clip51 (ad : Option Addr) (len cap : Nat) (w : World) (_ : len ≤ cap) : Calls Tryz.prog 51 #[.slice ad len cap] w fun e w' => e = .returned (.slice ad len len) ∧ w' = w := by
  go_enter Tryz.func51, Tryz.ntmps51
  go_wp2
  go_ret
  exact ⟨rfl, rfl⟩
theorem bodyC51 : ∃ c, Tryz.f51.body = some c := Option.isSome_iff_exists.1 (by kernel_rfl)
theorem clip75 (ad : Option Addr) (len cap : Nat) (w : World) (_ : len ≤ cap) : Calls Tryz.prog 75 #[.slice ad len cap] w fun e w' => e = .returned (.slice ad len len) ∧ w' = w := by
  go_enter Tryz.func75, Tryz.ntmps75
  go_wp2
  go_ret
  exact ⟨rfl, rfl⟩
theorem bodyC75 : ∃ c, Tryz.f75.body = some c := Option.isSome_iff_exists.1 (by kernel_rfl)
theorem clip73 (ad : Option Addr) (len cap : Nat) (w : World) (_ : len ≤ cap) : Calls Tryz.prog 73 #[.slice ad len cap] w fun e w' => e = .returned (.slice ad len len) ∧ w' = w := by
  go_enter Tryz.func73, Tryz.ntmps73
  go_wp2
  go_ret
  exact ⟨rfl, rfl⟩
theorem bodyC73 : ∃ c, Tryz.f73.body = some c := Option.isSome_iff_exists.1 (by kernel_rfl)
theorem clip_ok : ap5 Tryz.prog cfg := fun f hf => by
  have hf' : clips.contains f = true := hf
  simp only [clips, List.contains_cons, List.contains_nil, Bool.or_false, Bool.or_eq_true, beq_iff_eq] at hf'
  rcases hf' with rfl | rfl | rfl | rfl | rfl
  · obtain ⟨c, hc⟩ := bodyC55
    exact b6 Tryz.func55 (by kernel_rfl) hc clip55
  · obtain ⟨c, hc⟩ := bodyC53
    exact b6 Tryz.func53 (by kernel_rfl) hc clip53
  · obtain ⟨c, hc⟩ := bodyC51
    exact b6 Tryz.func51 (by kernel_rfl) hc clip51
  · obtain ⟨c, hc⟩ := bodyC75
    exact b6 Tryz.func75 (by kernel_rfl) hc clip75
  · obtain ⟨c, hc⟩ := bodyC73
    exact b6 Tryz.func73 (by kernel_rfl) hc clip73
theorem follows : Tryz.prog.follows .mixedOrders = true := by kernel_rfl
theorem tab_of {w : World} (h : ∀ n ob, cfg.gobj n = some ob → HoldsG w n ob) : Lib.TabIs Tryz.prog w "internal/strconv.uint64pow10" .u64 Lib.pow10Tab := by
  obtain ⟨t, fr, e⟩ := h 1 pow10 rfl
  have hn : Tryz.prog.globalNamed "internal/strconv.uint64pow10" = some 1 := by kernel_rfl
  unfold Lib.TabIs World.var?
  rw [hn]
  simp only [Option.bind_some, e]
  rfl
theorem bodyFI : ∃ c, Tryz.f62.body = some c := Option.isSome_iff_exists.1 (by kernel_rfl)
theorem bodyJ : ∃ c, Tryz.f63.body = some c := Option.isSome_iff_exists.1 (by kernel_rfl)
theorem bodyN : ∃ c, Tryz.f106.body = some c := Option.isSome_iff_exists.1 (by kernel_rfl)
theorem wo : Gives Tryz.prog cfg n_bz xFmtI := by
  obtain ⟨c, hc⟩ := bodyFI
  exact ai1 Tryz.func62 (by kernel_rfl) hc fun n w h0 h1 hg => Tryz.strconv_FormatInt_10 n h0 h1 w (tab_of hg)
theorem ok_Join : Gives Tryz.prog cfg n_b6 xJoin := by
  obtain ⟨c, hc⟩ := bodyJ
  exact ai0 Tryz.func63 (by kernel_rfl) hc (fun a c sep w => Tryz.strings_Join_none a c sep w) fun bk o c xs sep w h1 h2 h3 h4 h5 => Tryz.strings_Join bk o c xs sep w h1 h2 h3 h4 h5
theorem ok_names : Gives Tryz.prog cfg n_b5 aa4 := by
  obtain ⟨c, hc⟩ := bodyN
  exact z8 Tryz.func106 (by kernel_rfl) hc aiu fun b o c l w h1 h2 h3 h4 => aiv b o c l w h1 h2 h3 h4
theorem ext_ok : ExtOk Tryz.prog cfg := extOk_of fun f g hf => by
  have hf' : exts f = some g := hf
  unfold exts at hf'
  split at hf'
  · rename_i e; cases hf'; rw [e]; exact wo
  split at hf'
  · rename_i e; cases hf'; rw [e]; exact ok_Join
  split at hf'
  · rename_i e; cases hf'; rw [e]; exact ok_names
  split at hf'
  · rename_i e; cases hf'; rw [e]; exact ai2
  split at hf'
  · rename_i e; cases hf'; rw [e]; exact aaa
  cases hf'
theorem apb : CfgOk Tryz.prog cfg where
  intTy := fun t h => by cases h
  meth := fun t n f h => by cases h
  clip := clip_ok
  iter := fun f g h => by cases h
theorem pk : qe Tryz.prog cfg := fun f fn hf => by
  have hf' : fnsOf Tryz.prog tbl tab f = some fn := hf
  unfold fnsOf at hf'
  split at hf'
  · rename_i fn' h
    cases hf'
    exact tbl_ok (f, fn) (aof h)
  · exact aic tab_ok hf'
end Go.Proofs.YtnabebdceaoiiaaGreatDoor
