/- slices.Clip. -/
import Derived.Test.YteckebocflnkdaaDoorCode
import Derived.WalkKit
namespace Go.Proofs.YteckebocflnkdaaDoor
open Go Go.Ev Go.RowKit
theorem clip30 (ad : Option Addr) (len cap : Nat) (w : World) (_ : len ≤ cap) : Calls Tryd.prog 30 #[.slice ad len cap] w fun e w' => e = .returned (.slice ad len len) ∧ w' = w := by
  go_enter Tryd.func30, Tryd.ntmps30
  go_wp2
  go_ret
  exact ⟨rfl, rfl⟩
theorem clip35 (ad : Option Addr) (len cap : Nat) (w : World) (_ : len ≤ cap) : Calls Tryd.prog 35 #[.slice ad len cap] w fun e w' => e = .returned (.slice ad len len) ∧ w' = w := by
  go_enter Tryd.func35, Tryd.ntmps35
  go_wp2
  go_ret
  exact ⟨rfl, rfl⟩
theorem body30 : ∃ c, Tryd.f30.body = some c := Option.isSome_iff_exists.1 (by kernel_rfl)
theorem body35 : ∃ c, Tryd.f35.body = some c := Option.isSome_iff_exists.1 (by kernel_rfl)
theorem clip_ok : ClipOk Tryd.prog cfg := fun f hf => by
  have hf' : clips.contains f = true := hf
  simp only [clips, List.contains_cons, List.contains_nil, Bool.or_false, Bool.or_eq_true, beq_iff_eq] at hf'
  rcases hf' with rfl | rfl
  · obtain ⟨c, hc⟩ := body30
    exact clip_of_calls Tryd.func30 (by kernel_rfl) hc clip30
  · obtain ⟨c, hc⟩ := body35
    exact clip_of_calls Tryd.func35 (by kernel_rfl) hc clip35
end Go.Proofs.YteckebocflnkdaaDoor
