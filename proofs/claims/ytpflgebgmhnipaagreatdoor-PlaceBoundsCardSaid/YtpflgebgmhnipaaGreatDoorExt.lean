/- The evaluator over this program is sound: the contracts of the functions that it takes as they are. -/
import Derived.Test.YtpflgebgmhnipaaGreatDoorNam
import Derived.Test.YtpflgebgmhnipaaGreatDoorBak
namespace Go.Proofs.YtpflgebgmhnipaaGreatDoor
open Go.Ev Go Go.RowKit

theorem clip45 (ad : Option Addr) (len cap : Nat) (w : World) (_ : len ≤ cap) : Calls Tryz.prog 45 #[.slice ad len cap] w fun e w' => e = .returned (.slice ad len len) ∧ w' = w := by
  go_enter Tryz.func45, Tryz.ntmps45
  go_wp2
  go_ret
  exact ⟨rfl, rfl⟩
theorem bodyC45 : ∃ c, Tryz.f45.body = some c := Option.isSome_iff_exists.1 (by kernel_rfl)
theorem clip127 (ad : Option Addr) (len cap : Nat) (w : World) (_ : len ≤ cap) : Calls Tryz.prog 127 #[.slice ad len cap] w fun e w' => e = .returned (.slice ad len len) ∧ w' = w := by
  go_enter Tryz.func127, Tryz.ntmps127
  go_wp2
  go_ret
  exact ⟨rfl, rfl⟩
theorem bodyC127 : ∃ c, Tryz.f127.body = some c := Option.isSome_iff_exists.1 (by kernel_rfl)
theorem clip71 (ad : Option Addr) (len cap : Nat) (w : World) (_ : len ≤ cap) : Calls Tryz.prog 71 #[.slice ad len cap] w fun e w' => e = .returned (.slice ad len len) ∧ w' = w := by
  go_enter Tryz.func71, Tryz.ntmps71
  go_wp2
  go_ret
  exact ⟨rfl, rfl⟩
theorem bodyC71 : ∃ c, Tryz.f71.body = some c := Option.isSome_iff_exists.1 (by kernel_rfl)
theorem clip40 (ad : Option Addr) (len cap : Nat) (w : World) (_ : len ≤ cap) : Calls Tryz.prog 40 #[.slice ad len cap] w fun e w' => e = .returned (.slice ad len len) ∧ w' = w := by
  go_enter Tryz.func40, Tryz.ntmps40
  go_wp2
  go_ret
  exact ⟨rfl, rfl⟩
theorem bodyC40 : ∃ c, Tryz.f40.body = some c := Option.isSome_iff_exists.1 (by kernel_rfl)
theorem clip69 (ad : Option Addr) (len cap : Nat) (w : World) (_ : len ≤ cap) : Calls Tryz.prog 69 #[.slice ad len cap] w fun e w' => e = .returned (.slice ad len len) ∧ w' = w := by
  go_enter Tryz.func69, Tryz.ntmps69
  go_wp2
  go_ret
  exact ⟨rfl, rfl⟩
theorem bodyC69 : ∃ c, Tryz.f69.body = some c := Option.isSome_iff_exists.1 (by kernel_rfl)
theorem clip67 (ad : Option Addr) (len cap : Nat) (w : World) (_ : len ≤ cap) : Calls Tryz.prog 67 #[.slice ad len cap] w fun e w' => e = .returned (.slice ad len len) ∧ w' = w := by
  go_enter Tryz.func67, Tryz.ntmps67
  go_wp2
  go_ret
  exact ⟨rfl, rfl⟩
theorem bodyC67 : ∃ c, Tryz.f67.body = some c := Option.isSome_iff_exists.1 (by kernel_rfl)
theorem clip28 (ad : Option Addr) (len cap : Nat) (w : World) (_ : len ≤ cap) : Calls Tryz.prog 28 #[.slice ad len cap] w fun e w' => e = .returned (.slice ad len len) ∧ w' = w := by
  go_enter Tryz.func28, Tryz.ntmps28
  go_wp2
  go_ret
  exact ⟨rfl, rfl⟩
theorem bodyC28 : ∃ c, Tryz.f28.body = some c := Option.isSome_iff_exists.1 (by kernel_rfl)
theorem clip27 (ad : Option Addr) (len cap : Nat) (w : World) (_ : len ≤ cap) : Calls Tryz.prog 27 #[.slice ad len cap] w fun e w' => e = .returned (.slice ad len len) ∧ w' = w := by
  go_enter Tryz.func27, Tryz.ntmps27
  go_wp2
  go_ret
  exact ⟨rfl, rfl⟩
theorem bodyC27 : ∃ c, Tryz.f27.body = some c := Option.isSome_iff_exists.1 (by kernel_rfl)
theorem clip54 (ad : Option Addr) (len cap : Nat) (w : World) (_ : len ≤ cap) : Calls Tryz.prog 54 #[.slice ad len cap] w fun e w' => e = .returned (.slice ad len len) ∧ w' = w := by
  go_enter Tryz.func54, Tryz.ntmps54
  go_wp2
  go_ret
  exact ⟨rfl, rfl⟩
theorem bodyC54 : ∃ c, Tryz.f54.body = some c := Option.isSome_iff_exists.1 (by kernel_rfl)
theorem clip60 (ad : Option Addr) (len cap : Nat) (w : World) (_ : len ≤ cap) : Calls Tryz.prog 60 #[.slice ad len cap] w fun e w' => e = .returned (.slice ad len len) ∧ w' = w := by
  go_enter Tryz.func60, Tryz.ntmps60
  go_wp2
  go_ret
  exact ⟨rfl, rfl⟩
theorem bodyC60 : ∃ c, Tryz.f60.body = some c := Option.isSome_iff_exists.1 (by kernel_rfl)
theorem clip_ok : ClipOk Tryz.prog cfg := fun f hf => by
  have hf' : clips.contains f = true := hf
  simp only [clips, List.contains_cons, List.contains_nil, Bool.or_false, Bool.or_eq_true, beq_iff_eq] at hf'
  rcases hf' with rfl | rfl | rfl | rfl | rfl | rfl | rfl | rfl | rfl | rfl
  · obtain ⟨c, hc⟩ := bodyC45
    exact clip_of_calls Tryz.func45 (by kernel_rfl) hc clip45
  · obtain ⟨c, hc⟩ := bodyC127
    exact clip_of_calls Tryz.func127 (by kernel_rfl) hc clip127
  · obtain ⟨c, hc⟩ := bodyC71
    exact clip_of_calls Tryz.func71 (by kernel_rfl) hc clip71
  · obtain ⟨c, hc⟩ := bodyC40
    exact clip_of_calls Tryz.func40 (by kernel_rfl) hc clip40
  · obtain ⟨c, hc⟩ := bodyC69
    exact clip_of_calls Tryz.func69 (by kernel_rfl) hc clip69
  · obtain ⟨c, hc⟩ := bodyC67
    exact clip_of_calls Tryz.func67 (by kernel_rfl) hc clip67
  · obtain ⟨c, hc⟩ := bodyC28
    exact clip_of_calls Tryz.func28 (by kernel_rfl) hc clip28
  · obtain ⟨c, hc⟩ := bodyC27
    exact clip_of_calls Tryz.func27 (by kernel_rfl) hc clip27
  · obtain ⟨c, hc⟩ := bodyC54
    exact clip_of_calls Tryz.func54 (by kernel_rfl) hc clip54
  · obtain ⟨c, hc⟩ := bodyC60
    exact clip_of_calls Tryz.func60 (by kernel_rfl) hc clip60
theorem follows : Tryz.prog.follows .mixedOrders = true := by kernel_rfl
theorem bodyN : ∃ c, Tryz.f125.body = some c := Option.isSome_iff_exists.1 (by kernel_rfl)
theorem ok_names : Gives Tryz.prog cfg n_types_names xNames := by
  obtain ⟨c, hc⟩ := bodyN
  exact gives_names Tryz.func125 (by kernel_rfl) hc names_none fun b o c l w h1 h2 h3 h4 => names_full b o c l w h1 h2 h3 h4
theorem bodyB : ∃ c, Tryz.f89.body = some c := Option.isSome_iff_exists.1 (by kernel_rfl)
theorem back_made (a : Option Addr) (len cap : Nat) (w : World) : Calls Tryz.prog 89 #[.slice a len cap] w fun e w' => e = .returned (.func (.func 124) #[] #[.pointer (some ⟨w.heap.size, 0, none⟩)]) ∧ w' = w.alloc (.cells #[.slice a len cap] 80) := by
  go_enter Tryz.func89, Tryz.ntmps89
  go_wp2
  go_ret
  exact ⟨rfl, rfl⟩
theorem ok_Backward : Gives Tryz.prog cfg n_slices_Backward_Spb_Field_pb_Field (xSeq n_slices_Backward_Spb_Field_pb_Field_1) := by
  obtain ⟨c, hc⟩ := bodyB
  intro ds r hr F args w h1 h2 _ _
  unfold xSeq at hr
  split at hr
  case h_2 => cases hr
  rename_i es
  cases hr
  obtain ⟨v, rfl, hv⟩ := args_one h1 h2
  have hs : ∃ a len cap, v = .slice a len cap := by cases hv <;> exact ⟨_, _, _, rfl⟩
  obtain ⟨a, len, cap, rfl⟩ := hs
  refine .inr ⟨run_enter Tryz.func89 (by kernel_rfl) hc _ w, (back_made a len cap w).mono fun e w' ⟨e1, e2⟩ => ?_⟩
  subst e1; subst e2
  have hB : Below w.heap.size w (w.alloc (.cells #[.slice a len cap] 80)) := (Below.refl _ _).alloc (Nat.le_refl _) _
  have hcell : (w.alloc (.cells #[.slice a len cap] 80)).cell? (ad3 w.heap.size 0) = some (.slice a len cap) := by
    rw [show ad3 w.heap.size 0 = ⟨w.heap.size, 0, none⟩ from rfl, World.cell?_alloc_new]
    rfl
  refine ⟨hB.size, fun b hb => hB.block b hb, ⟨hB.os, hB.tape, hB.output⟩, [.pointer (some ⟨w.heap.size, 0, none⟩)], [.ptr (.sl es)], rfl, rfl, rfl, fun i u e h3 h4 => ?_⟩
  match i, h3, h4 with
  | 0, h3, h4 =>
    cases h3; cases h4
    refine .ptr w.heap.size 0 (.sl es) (fun _ => .slice a len cap) (by simp [D.cells, D.isCell]) (fun j c hj => ?_) (fun j c hj => ?_)
    · match j, hj with
      | 0, hj => exact ⟨.inr (Nat.le_refl _), hcell⟩
    · match j, hj with
      | 0, hj =>
        cases hj
        exact hv.mono fun b o u hb hu => ⟨.inl hb, by rw [cell_of_heap (hB.block b (by simpa using World.block_lt_of_cell? _ _ hu))]; exact hu⟩
theorem ext_ok : ExtOk Tryz.prog cfg := extOk_of fun f g hf => by
  have hf' : exts f = some g := hf
  unfold exts at hf'
  split at hf'
  · rename_i e; cases hf'; rw [e]; exact ok_names
  split at hf'
  · rename_i e; cases hf'; rw [e]; exact ok_Backward
  cases hf'
theorem iter_ok : IterOk Tryz.prog cfg := fun f g hg => by
  have hg' : iters f = some g := hg
  unfold iters at hg'
  split at hg'
  · rename_i e; cases hg'; rw [e]; exact back_iter
  cases hg'
theorem cfg_ok : CfgOk Tryz.prog cfg where
  intTy := fun t h => by cases h
  meth := fun t n f h => by cases h
  clip := clip_ok
  iter := iter_ok
theorem funcs_ok : FuncsOk Tryz.prog cfg := fun f fn hf => by
  have hf' : fnsOf Tryz.prog tbl tab f = some fn := hf
  unfold fnsOf at hf'
  split at hf'
  · rename_i fn' h
    cases hf'
    exact tbl_ok (f, fn) (lk_mem h)
  · exact autoL_ok tab_ok hf'
end Go.Proofs.YtpflgebgmhnipaaGreatDoor
