/- The evaluator over this program is sound: the contracts of the functions that it takes as they are. -/
import Derived.Test.YteckebocflnkdaaDoorFmt
import Derived.Test.YteckebocflnkdaaDoorClip
namespace Go.Proofs.YteckebocflnkdaaDoor
open Go.Ev Go Go.RowKit

theorem follows : Tryd.prog.follows .mixedOrders = true := by kernel_rfl
theorem body38 : ∃ c, Tryd.f38.body = some c := Option.isSome_iff_exists.1 (by kernel_rfl)
theorem body40 : ∃ c, Tryd.f40.body = some c := Option.isSome_iff_exists.1 (by kernel_rfl)
theorem body51 : ∃ c, Tryd.f51.body = some c := Option.isSome_iff_exists.1 (by kernel_rfl)
theorem body62 : ∃ c, Tryd.f62.body = some c := Option.isSome_iff_exists.1 (by kernel_rfl)
theorem body73 : ∃ c, Tryd.f73.body = some c := Option.isSome_iff_exists.1 (by kernel_rfl)
theorem tab_of {w : World} (h : ∀ n ob, cfg.gobj n = some ob → HoldsG w n ob) : Lib.TabIs Tryd.prog w "internal/strconv.uint64pow10" .u64 Lib.pow10Tab := by
  obtain ⟨t, fr, e⟩ := h 0 pow10 rfl
  have hn : Tryd.prog.globalNamed "internal/strconv.uint64pow10" = some 0 := by kernel_rfl
  unfold Lib.TabIs World.var?
  rw [hn]
  simp only [Option.bind_some, e]
  rfl
theorem ok_FormatUint : Gives Tryd.prog cfg n_strconv_FormatUint xFmtU := by
  obtain ⟨c, hc⟩ := body38
  exact gives_fmtU Tryd.func38 (by kernel_rfl) hc fun n w h hg => fmtU n h w (tab_of hg)
theorem ok_Repeat : Gives Tryd.prog cfg n_strings_Repeat xRepeat := by
  obtain ⟨c, hc⟩ := body40
  exact gives_repeat Tryd.func40 (by kernel_rfl) hc fun s n w h0 h1 => Tryd.strings_Repeat s n w h0 h1
theorem ok_Mul64 : Gives Tryd.prog cfg n_bits_Mul64 xMul64 := by
  obtain ⟨c, hc⟩ := body51
  exact gives_mul64 Tryd.func51 (by kernel_rfl) hc fun x y w hx hy => (Tryd.bits_Mul64 x y hx hy w).mono fun e w' ⟨e1, e2⟩ => ⟨e1, by rw [e2]; exact Below.refl _ _⟩
theorem ok_Trim : Gives Tryd.prog cfg n_strings_Trim xTrim := by
  obtain ⟨c, hc⟩ := body62
  exact gives_trim Tryd.func62 (by kernel_rfl) hc fun s t w h1 h2 h3 => Tryd.strings_Trim s t w h1 h2 h3
theorem ok_Index : Gives Tryd.prog cfg n_stringslite_Index xIndex1 := by
  obtain ⟨c, hc⟩ := body73
  exact gives_index1 Tryd.func73 (by kernel_rfl) hc fun s c w => (Tryd.stringslite_Index_one s c w).mono fun e w' ⟨e1, e2⟩ => ⟨e1, by rw [e2]; exact Below.refl _ _⟩
theorem ext_ok : ExtOk Tryd.prog cfg := extOk_of fun f g hf => by
  have hf' : exts f = some g := hf
  unfold exts at hf'
  split at hf'
  · rename_i e; cases hf'; rw [e]; exact ok_FormatUint
  split at hf'
  · rename_i e; cases hf'; rw [e]; exact ok_Mul64
  split at hf'
  · rename_i e; cases hf'; rw [e]; exact ok_Repeat
  split at hf'
  · rename_i e; cases hf'; rw [e]; exact ok_Trim
  split at hf'
  · rename_i e; cases hf'; rw [e]; exact ok_Index
  cases hf'
theorem cfg_ok : CfgOk Tryd.prog cfg where
  intTy := fun t h => by cases h
  meth := fun t n f h => by cases h
  clip := clip_ok
theorem funcs_ok : FuncsOk Tryd.prog cfg := funcsOk_of tbl_ok rfl
end Go.Proofs.YteckebocflnkdaaDoor
