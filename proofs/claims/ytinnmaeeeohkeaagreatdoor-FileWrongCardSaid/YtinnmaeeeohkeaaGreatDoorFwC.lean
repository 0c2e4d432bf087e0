/- FileWrong: what file.check tells of rows of one number each. Own work. -/
import Derived.Test.YtinnmaeeeohkeaaGreatDoorFwB
import Derived.Test.YtinnmaeeeohkeaaGreatDoorK
import Derived.Test.YtinnmaeeeohkeaaGreatDoorMeX6
namespace Go.Proofs.YtinnmaeeeohkeaaGreatDoor
open Go Go.RowKit Go.Me
set_option linter.unusedVariables false
set_option linter.unusedSimpArgs false
set_option maxRecDepth 100000

/-- an error that says where -/
structure FaultAt (w : World) (F : Nat) (s : List UInt8) (i g : Int) : Prop where
  at_ : w.heap[F]? = some (.cells #[.string ⟨s.toArray⟩, .int .i64 i, .iface 46 (.int .i64 g)] 50)
theorem FaultAt.grown {w w' : World} {F : Nat} {s : List UInt8} {i g : Int} (h : FaultAt w F s i g) (k : w.grownBy w' none) : FaultAt w' F s i g :=
  ⟨(k.block F (Array.getElem?_eq_some_iff.1 h.at_).1 (by simp)).trans h.at_⟩
/-- the error, or none -/
def FaultIs (w0 w : World) (s : List UInt8) (i g : Int) (v : Value) : Prop := if g = 0 then v = .nilIface else ∃ F, v = .iface 44 (.pointer (some ⟨F, 0, none⟩)) ∧ w0.heap.size ≤ F ∧ FaultAt w F s i g
theorem FaultIs.grown {w0 w w' : World} {s : List UInt8} {i g : Int} {v : Value} (h : FaultIs w0 w s i g v) (k : w.grownBy w' none) : FaultIs w0 w' s i g v := by
  unfold FaultIs at *
  split
  · rename_i hg; rw [if_pos hg] at h; exact h
  · rename_i hg; rw [if_neg hg] at h; obtain ⟨F, h1, h2, h3⟩ := h; exact ⟨F, h1, h2, h3.grown k⟩
theorem fault_calls (s : List UInt8) (i g : Int) (w : World) : Calls Tryz.prog 22 #[.string ⟨s.toArray⟩, .int .i64 i, .int .i64 g] w fun e w' => ∃ v, e = .returned v ∧ w.grownBy w' none ∧ FaultIs w w' s i g v := by
  go_enter Tryz.func22, Tryz.ntmps22
  by_cases hg : g = 0
  · subst hg
    go_wp2
    go_ret
    exact ⟨_, rfl, grown_refl _ _, by simp [FaultIs]⟩
  · go_wp2
    go_ret
    refine ⟨_, rfl, World.grownBy_alloc _ _ _, ?_⟩
    unfold FaultIs
    rw [if_neg hg]
    exact ⟨w.heap.size, by simp, Nat.le_refl _, ⟨World.alloc_heap_new _ _⟩⟩
/-- the first error of two -/
def firstOf (a b : Value) : Value := match a with
  | .nilIface => b
  | _ => a
theorem first_calls (L : Nat) (a b : Value) (w : World) (h : w.heap[L]? = some (.cells #[a, b] 34)) (ha : a = .nilIface ∨ ∃ t p, a = .iface t (.pointer p)) (hb : b = .nilIface ∨ ∃ t p, b = .iface t (.pointer p)) :
    Calls Tryz.prog 45 #[.slice (some ⟨L, 0, none⟩) 2 2] w fun e w' => e = .returned (firstOf a b) ∧ w' = w := by
  have c0 : w.cell? ⟨L, 0, none⟩ = some a := by simp [World.cell?, h]
  have c1 : w.cell? ⟨L, 1, none⟩ = some b := by simp [World.cell?, h]
  replace ha : Aside _ := ha
  replace hb : Aside _ := hb
  clear h
  go_enter Tryz.func45, Tryz.ntmps45
  go_wp2
  go_loopw [7] (fun i wl => wl = w ∧ (i = .int .i64 0 ∨ i = .int .i64 1 ∧ Aside (a = .nilIface) ∨ i = .int .i64 2 ∧ Aside (a = .nilIface) ∧ Aside (b = .nilIface))) (fun i _ => 2 - (intOf i).toNat)
  case atStart => exact ⟨rfl, .inl rfl⟩
  case round =>
    obtain ⟨rfl, hrel⟩ := hrel
    rcases hrel with rfl | ⟨rfl, h1⟩ | ⟨rfl, h1, h2⟩
    · rcases ha.out with rfl | ⟨t, p, rfl⟩
      · go_wp2
        exact ⟨⟨by first | exact rfl | exact trivial, .inr (.inl ⟨rfl, by first | exact rfl | exact trivial⟩)⟩, by decide⟩
      · go_wp2
        go_ret
        exact ⟨rfl, rfl⟩
    · have h1 := h1.out
      subst h1
      rcases hb.out with rfl | ⟨t, p, rfl⟩
      · go_wp2
        exact ⟨⟨by first | exact rfl | exact trivial, .inr (.inr ⟨rfl, by first | exact rfl | exact trivial, by first | exact rfl | exact trivial⟩)⟩, by decide⟩
      · go_wp2
        go_ret
        exact ⟨rfl, rfl⟩
    · have h1 := h1.out
      have h2 := h2.out
      subst h1
      subst h2
      go_wp2
      go_ret
      exact ⟨rfl, rfl⟩
/-- no user's data -/
theorem noLaid (w : World) : Laid cfg0 w := fun k cs h => by cases h
theorem ran_pairs : ranL cfg0 200 49 [.nilS] [] .nilI [] = true := by kernel_rfl
theorem pairs_calls (w : World) : Calls Tryz.prog 49 #[.slice none 0 0] w fun e w' => e = .returned .nilIface ∧ w.grownBy w' none := by
  obtain ⟨c, hc⟩ : ∃ c, Tryz.f49.body = some c := Option.isSome_iff_exists.1 (by kernel_rfl)
  refine (rows_call (C := cfg0) call0 Tryz.func49 (by kernel_rfl) hc ran_pairs (base := w.heap.size) (cs := []) (vs := [.slice none 0 0]) (noLaid w) (fun k cs h => by cases h) (Nat.le_refl _) List.nodup_nil rfl (fun b c xs h => by simp at h) (.cons .nilS .nil)).mono ?_
  rintro e w' ⟨v, ν', rfl, hv, _, _, hk, hs, h1, h2, h3⟩
  cases hv
  exact ⟨rfl, h1, h2, h3, hs, fun k h _ => hk k h (by simp)⟩
end Go.Proofs.YtinnmaeeeohkeaaGreatDoor
