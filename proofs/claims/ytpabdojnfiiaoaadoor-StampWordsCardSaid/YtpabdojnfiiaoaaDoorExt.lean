/- The evaluator over this program is sound: the contracts of the functions that it takes as they are. -/
import Derived.Test.YtpabdojnfiiaoaaDoorCode
import Derived.Test.YtpabdojnfiiaoaaDoorShelf
import Derived.Lib.AppendIntMem
namespace Go.Proofs.YtpabdojnfiiaoaaDoor
open Go.Ev Go Go.RowKit

theorem follows : Tryd.prog.follows .mixedOrders = true := by kernel_rfl
theorem body37 : ∃ c, Tryd.f37.body = some c := Option.isSome_iff_exists.1 (by kernel_rfl)
theorem body38 : ∃ c, Tryd.f38.body = some c := Option.isSome_iff_exists.1 (by kernel_rfl)

theorem tab_of {w : World} (h : ∀ n ob, cfg.gobj n = some ob → HoldsG w n ob) : Lib.TabIs Tryd.prog w "internal/strconv.uint64pow10" .u64 Lib.pow10Tab := by
  obtain ⟨t, fr, e⟩ := h 0 pow10 rfl
  have hn : Tryd.prog.globalNamed "internal/strconv.uint64pow10" = some 0 := by kernel_rfl
  unfold Lib.TabIs World.var?
  rw [hn]
  simp only [Option.bind_some, e]
  rfl

theorem ok_Itoa : Gives Tryd.prog cfg n_strconv_Itoa xItoa := by
  obtain ⟨c, hc⟩ := body37
  refine gives_itoa Tryd.func37 (by kernel_rfl) hc fun n w h0 h1 hg => ?_
  refine (Tryd.strconv_Itoa n h0 h1 w (tab_of hg)).mono fun e w' ⟨e1, k, os, e2⟩ => ⟨e1, ?_⟩
  rw [e2]
  exact Lib.below_grow _ w (Nat.le_refl _) k os

theorem ok_Repeat : Gives Tryd.prog cfg n_strings_Repeat xRepeat := by
  obtain ⟨c, hc⟩ := body38
  exact gives_repeat Tryd.func38 (by kernel_rfl) hc fun s n w h0 h1 => Tryd.strings_Repeat s n w h0 h1

theorem ext_ok : ExtOk Tryd.prog cfg := extOk_of fun f g hf => by
  have hf' : exts f = some g := hf
  unfold exts at hf'
  split at hf'
  · rename_i e; cases hf'; rw [e]; exact ok_Itoa
  · split at hf'
    · rename_i e; cases hf'; rw [e]; exact ok_Repeat
    · cases hf'

theorem cfg_ok : CfgOk Tryd.prog cfg where
  intTy := fun t h => by cases h
  meth := fun t n f h => by cases h
  clip := fun f h => by cases h

theorem funcs_ok : FuncsOk Tryd.prog cfg := funcsOk_of tbl_ok rfl

end Go.Proofs.YtpabdojnfiiaoaaDoor
