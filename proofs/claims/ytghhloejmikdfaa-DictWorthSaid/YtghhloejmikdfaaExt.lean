/- The evaluator over this program is sound: the contracts of the functions that it takes as they are. -/
import Derived.Test.YtghhloejmikdfaaRisF
namespace Go.Proofs.Ytghhloejmikdfaa
open Go.Ev Go Go.RowKit

theorem clip22 (ad : Option Addr) (len cap : Nat) (w : World) (_ : len ≤ cap) : Calls Try.prog 22 #[.slice ad len cap] w fun e w' => e = .returned (.slice ad len len) ∧ w' = w := by
  go_enter Try.func22, Try.ntmps22
  go_wp2
  go_ret
  exact ⟨rfl, rfl⟩
theorem clip26 (ad : Option Addr) (len cap : Nat) (w : World) (_ : len ≤ cap) : Calls Try.prog 26 #[.slice ad len cap] w fun e w' => e = .returned (.slice ad len len) ∧ w' = w := by
  go_enter Try.func26, Try.ntmps26
  go_wp2
  go_ret
  exact ⟨rfl, rfl⟩
theorem clip27 (ad : Option Addr) (len cap : Nat) (w : World) (_ : len ≤ cap) : Calls Try.prog 27 #[.slice ad len cap] w fun e w' => e = .returned (.slice ad len len) ∧ w' = w := by
  go_enter Try.func27, Try.ntmps27
  go_wp2
  go_ret
  exact ⟨rfl, rfl⟩
theorem body22 : ∃ c, Try.f22.body = some c := Option.isSome_iff_exists.1 (by kernel_rfl)
theorem body26 : ∃ c, Try.f26.body = some c := Option.isSome_iff_exists.1 (by kernel_rfl)
theorem body27 : ∃ c, Try.f27.body = some c := Option.isSome_iff_exists.1 (by kernel_rfl)
theorem clip_ok : ClipOk Try.prog cfg := fun f hf => by
  have hf' : clips.contains f = true := hf
  simp only [clips, List.contains_cons, List.contains_nil, Bool.or_false, Bool.or_eq_true, beq_iff_eq] at hf'
  rcases hf' with rfl | rfl | rfl
  · obtain ⟨c, hc⟩ := body27
    exact clip_of_calls Try.func27 (by kernel_rfl) hc clip27
  · obtain ⟨c, hc⟩ := body26
    exact clip_of_calls Try.func26 (by kernel_rfl) hc clip26
  · obtain ⟨c, hc⟩ := body22
    exact clip_of_calls Try.func22 (by kernel_rfl) hc clip22
theorem follows : Try.prog.follows .mixedOrders = true := by kernel_rfl
theorem ok_Compare : Gives Try.prog cfg n_bytealg_Compare xCompare := gives_compare Try.func33 (by kernel_rfl) (by kernel_rfl) (by kernel_rfl) (by kernel_rfl)
theorem ok_MakeNoZero : Gives Try.prog cfg n_bytealg_MakeNoZero xMakeNoZero := gives_makeNoZero (ps := #[3]) (t := 37) Try.func34 (by kernel_rfl) (by kernel_rfl) (by kernel_rfl) (by kernel_rfl) Try.underlying37
theorem ext_ok : ExtOk Try.prog cfg := extOk_of fun f g hf => by
  have hf' : exts f = some g := hf
  unfold exts at hf'
  split at hf'
  · rename_i e; cases hf'; rw [e]; exact ok_MakeNoZero
  split at hf'
  · rename_i e; cases hf'; rw [e]; exact ok_Compare
  split at hf'
  · rename_i e; cases hf'; rw [e]; exact gives_rising
  cases hf'
theorem cfg_ok : CfgOk Try.prog cfg where
  intTy := fun t h => by cases h
  meth := fun t n f h => by cases h
  clip := clip_ok
theorem funcs_ok : FuncsOk Try.prog cfg := funcsOk_of tbl_ok rfl
end Go.Proofs.Ytghhloejmikdfaa
