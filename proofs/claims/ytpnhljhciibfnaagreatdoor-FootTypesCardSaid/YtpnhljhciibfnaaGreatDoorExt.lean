/- The evaluator over this program is sound: the contracts of the functions that it takes as they are. -/
import Derived.Test.YtpnhljhciibfnaaGreatDoorNam
import Derived.Test.YtpnhljhciibfnaaGreatDoorBak
import Derived.Test.YtpnhljhciibfnaaGreatDoorFlD
namespace Go.Proofs.YtpnhljhciibfnaaGreatDoor
open Go.Ev Go Go.RowKit

theorem clip124 (ad : Option Addr) (len cap : Nat) (w : World) (_ : len ≤ cap) : Calls Tryz.prog 124 #[.slice ad len cap] w fun e w' => e = .returned (.slice ad len len) ∧ w' = w := by
  go_enter Tryz.func124, Tryz.ntmps124
  go_wp2
  go_ret
  exact ⟨rfl, rfl⟩
theorem bodyC124 : ∃ c, Tryz.f124.body = some c := Option.isSome_iff_exists.1 (by kernel_rfl)
theorem clip123 (ad : Option Addr) (len cap : Nat) (w : World) (_ : len ≤ cap) : Calls Tryz.prog 123 #[.slice ad len cap] w fun e w' => e = .returned (.slice ad len len) ∧ w' = w := by
  go_enter Tryz.func123, Tryz.ntmps123
  go_wp2
  go_ret
  exact ⟨rfl, rfl⟩
theorem bodyC123 : ∃ c, Tryz.f123.body = some c := Option.isSome_iff_exists.1 (by kernel_rfl)
theorem clip166 (ad : Option Addr) (len cap : Nat) (w : World) (_ : len ≤ cap) : Calls Tryz.prog 166 #[.slice ad len cap] w fun e w' => e = .returned (.slice ad len len) ∧ w' = w := by
  go_enter Tryz.func166, Tryz.ntmps166
  go_wp2
  go_ret
  exact ⟨rfl, rfl⟩
theorem bodyC166 : ∃ c, Tryz.f166.body = some c := Option.isSome_iff_exists.1 (by kernel_rfl)
theorem clip165 (ad : Option Addr) (len cap : Nat) (w : World) (_ : len ≤ cap) : Calls Tryz.prog 165 #[.slice ad len cap] w fun e w' => e = .returned (.slice ad len len) ∧ w' = w := by
  go_enter Tryz.func165, Tryz.ntmps165
  go_wp2
  go_ret
  exact ⟨rfl, rfl⟩
theorem bodyC165 : ∃ c, Tryz.f165.body = some c := Option.isSome_iff_exists.1 (by kernel_rfl)
theorem clip130 (ad : Option Addr) (len cap : Nat) (w : World) (_ : len ≤ cap) : Calls Tryz.prog 130 #[.slice ad len cap] w fun e w' => e = .returned (.slice ad len len) ∧ w' = w := by
  go_enter Tryz.func130, Tryz.ntmps130
  go_wp2
  go_ret
  exact ⟨rfl, rfl⟩
theorem bodyC130 : ∃ c, Tryz.f130.body = some c := Option.isSome_iff_exists.1 (by kernel_rfl)
theorem clip120 (ad : Option Addr) (len cap : Nat) (w : World) (_ : len ≤ cap) : Calls Tryz.prog 120 #[.slice ad len cap] w fun e w' => e = .returned (.slice ad len len) ∧ w' = w := by
  go_enter Tryz.func120, Tryz.ntmps120
  go_wp2
  go_ret
  exact ⟨rfl, rfl⟩
theorem bodyC120 : ∃ c, Tryz.f120.body = some c := Option.isSome_iff_exists.1 (by kernel_rfl)
theorem clip83 (ad : Option Addr) (len cap : Nat) (w : World) (_ : len ≤ cap) : Calls Tryz.prog 83 #[.slice ad len cap] w fun e w' => e = .returned (.slice ad len len) ∧ w' = w := by
  go_enter Tryz.func83, Tryz.ntmps83
  go_wp2
  go_ret
  exact ⟨rfl, rfl⟩
theorem bodyC83 : ∃ c, Tryz.f83.body = some c := Option.isSome_iff_exists.1 (by kernel_rfl)
theorem clip85 (ad : Option Addr) (len cap : Nat) (w : World) (_ : len ≤ cap) : Calls Tryz.prog 85 #[.slice ad len cap] w fun e w' => e = .returned (.slice ad len len) ∧ w' = w := by
  go_enter Tryz.func85, Tryz.ntmps85
  go_wp2
  go_ret
  exact ⟨rfl, rfl⟩
theorem bodyC85 : ∃ c, Tryz.f85.body = some c := Option.isSome_iff_exists.1 (by kernel_rfl)
theorem clip34 (ad : Option Addr) (len cap : Nat) (w : World) (_ : len ≤ cap) : Calls Tryz.prog 34 #[.slice ad len cap] w fun e w' => e = .returned (.slice ad len len) ∧ w' = w := by
  go_enter Tryz.func34, Tryz.ntmps34
  go_wp2
  go_ret
  exact ⟨rfl, rfl⟩
theorem bodyC34 : ∃ c, Tryz.f34.body = some c := Option.isSome_iff_exists.1 (by kernel_rfl)
theorem clip81 (ad : Option Addr) (len cap : Nat) (w : World) (_ : len ≤ cap) : Calls Tryz.prog 81 #[.slice ad len cap] w fun e w' => e = .returned (.slice ad len len) ∧ w' = w := by
  go_enter Tryz.func81, Tryz.ntmps81
  go_wp2
  go_ret
  exact ⟨rfl, rfl⟩
theorem bodyC81 : ∃ c, Tryz.f81.body = some c := Option.isSome_iff_exists.1 (by kernel_rfl)
theorem clip79 (ad : Option Addr) (len cap : Nat) (w : World) (_ : len ≤ cap) : Calls Tryz.prog 79 #[.slice ad len cap] w fun e w' => e = .returned (.slice ad len len) ∧ w' = w := by
  go_enter Tryz.func79, Tryz.ntmps79
  go_wp2
  go_ret
  exact ⟨rfl, rfl⟩
theorem bodyC79 : ∃ c, Tryz.f79.body = some c := Option.isSome_iff_exists.1 (by kernel_rfl)
theorem clip_ok : ClipOk Tryz.prog cfg := fun f hf => by
  have hf' : clips.contains f = true := hf
  simp only [clips, List.contains_cons, List.contains_nil, Bool.or_false, Bool.or_eq_true, beq_iff_eq] at hf'
  rcases hf' with rfl | rfl | rfl | rfl | rfl | rfl | rfl | rfl | rfl | rfl | rfl
  · obtain ⟨c, hc⟩ := bodyC124
    exact clip_of_calls Tryz.func124 (by kernel_rfl) hc clip124
  · obtain ⟨c, hc⟩ := bodyC123
    exact clip_of_calls Tryz.func123 (by kernel_rfl) hc clip123
  · obtain ⟨c, hc⟩ := bodyC166
    exact clip_of_calls Tryz.func166 (by kernel_rfl) hc clip166
  · obtain ⟨c, hc⟩ := bodyC165
    exact clip_of_calls Tryz.func165 (by kernel_rfl) hc clip165
  · obtain ⟨c, hc⟩ := bodyC130
    exact clip_of_calls Tryz.func130 (by kernel_rfl) hc clip130
  · obtain ⟨c, hc⟩ := bodyC120
    exact clip_of_calls Tryz.func120 (by kernel_rfl) hc clip120
  · obtain ⟨c, hc⟩ := bodyC83
    exact clip_of_calls Tryz.func83 (by kernel_rfl) hc clip83
  · obtain ⟨c, hc⟩ := bodyC85
    exact clip_of_calls Tryz.func85 (by kernel_rfl) hc clip85
  · obtain ⟨c, hc⟩ := bodyC34
    exact clip_of_calls Tryz.func34 (by kernel_rfl) hc clip34
  · obtain ⟨c, hc⟩ := bodyC81
    exact clip_of_calls Tryz.func81 (by kernel_rfl) hc clip81
  · obtain ⟨c, hc⟩ := bodyC79
    exact clip_of_calls Tryz.func79 (by kernel_rfl) hc clip79
theorem follows : Tryz.prog.follows .mixedOrders = true := by kernel_rfl
theorem bodyN : ∃ c, Tryz.f149.body = some c := Option.isSome_iff_exists.1 (by kernel_rfl)
theorem ok_names : Gives Tryz.prog cfg n_types_names xNames := by
  obtain ⟨c, hc⟩ := bodyN
  exact gives_names Tryz.func149 (by kernel_rfl) hc names_none fun b o c l w h1 h2 h3 h4 => names_full b o c l w h1 h2 h3 h4
theorem bodyB : ∃ c, Tryz.f128.body = some c := Option.isSome_iff_exists.1 (by kernel_rfl)
theorem back_made (a : Option Addr) (len cap : Nat) (w : World) : Calls Tryz.prog 128 #[.slice a len cap] w fun e w' => e = .returned (.func (.func 150) #[] #[.pointer (some ⟨w.heap.size, 0, none⟩)]) ∧ w' = w.alloc (.cells #[.slice a len cap] 92) := by
  go_enter Tryz.func128, Tryz.ntmps128
  go_wp2
  go_ret
  exact ⟨rfl, rfl⟩
theorem ok_Backward : Gives Tryz.prog cfg n_slices_Backward_Spb_Field_pb_Field (xSeq n_slices_Backward_Spb_Field_pb_Field_1) := by
  obtain ⟨c, hc⟩ := bodyB
  intro ds r hr F args w h1 h2 _ _
  unfold xSeq at hr
  split at hr
  case h_2 => cases hr
  rename_i es
  cases hr
  obtain ⟨v, rfl, hv⟩ := args_one h1 h2
  have hs : ∃ a len cap, v = .slice a len cap := by cases hv <;> exact ⟨_, _, _, rfl⟩
  obtain ⟨a, len, cap, rfl⟩ := hs
  refine .inr ⟨run_enter Tryz.func128 (by kernel_rfl) hc _ w, (back_made a len cap w).mono fun e w' ⟨e1, e2⟩ => ?_⟩
  subst e1; subst e2
  have hB : Below w.heap.size w (w.alloc (.cells #[.slice a len cap] 92)) := (Below.refl _ _).alloc (Nat.le_refl _) _
  have hcell : (w.alloc (.cells #[.slice a len cap] 92)).cell? (ad3 w.heap.size 0) = some (.slice a len cap) := by
    rw [show ad3 w.heap.size 0 = ⟨w.heap.size, 0, none⟩ from rfl, World.cell?_alloc_new]
    rfl
  refine ⟨hB.size, fun b hb => hB.block b hb, ⟨hB.os, hB.tape, hB.output⟩, [.pointer (some ⟨w.heap.size, 0, none⟩)], [.ptr (.sl es)], rfl, rfl, rfl, fun i u e h3 h4 => ?_⟩
  match i, h3, h4 with
  | 0, h3, h4 =>
    cases h3; cases h4
    refine .ptr w.heap.size 0 (.sl es) (fun _ => .slice a len cap) (by simp [D.cells, D.isCell]) (fun j c hj => ?_) (fun j c hj => ?_)
    · match j, hj with
      | 0, hj => exact ⟨.inr (Nat.le_refl _), hcell⟩
    · match j, hj with
      | 0, hj =>
        cases hj
        exact hv.mono fun b o u hb hu => ⟨.inl hb, by rw [cell_of_heap (hB.block b (by simpa using World.block_lt_of_cell? _ _ hu))]; exact hu⟩
theorem ext_ok : ExtOk Tryz.prog cfg := extOk_of fun f g hf => by
  have hf' : exts f = some g := hf
  unfold exts at hf'
  split at hf'
  · rename_i e; cases hf'; rw [e]; exact ok_names
  split at hf'
  · rename_i e; cases hf'; rw [e]; exact gives_flat
  split at hf'
  · rename_i e; cases hf'; rw [e]; exact ok_Backward
  cases hf'
theorem iter_ok : IterOk Tryz.prog cfg := fun f g hg => by
  have hg' : iters f = some g := hg
  unfold iters at hg'
  split at hg'
  · rename_i e; cases hg'; rw [e]; exact back_iter
  cases hg'
theorem cfg_ok : CfgOk Tryz.prog cfg where
  intTy := fun t h => by cases h
  meth := fun t n f h => by cases h
  clip := clip_ok
  iter := iter_ok
theorem funcs_ok : FuncsOk Tryz.prog cfg := fun f fn hf => by
  have hf' : fnsOf Tryz.prog tbl tab f = some fn := hf
  unfold fnsOf at hf'
  split at hf'
  · rename_i fn' h
    cases hf'
    exact tbl_ok (f, fn) (lk_mem h)
  · exact autoL_ok tab_ok hf'
end Go.Proofs.YtpnhljhciibfnaaGreatDoor
