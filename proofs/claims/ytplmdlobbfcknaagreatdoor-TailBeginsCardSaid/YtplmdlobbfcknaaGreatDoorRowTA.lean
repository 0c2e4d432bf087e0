/- TailBegins: the row lifted: own work. -/
import Derived.Test.YtplmdlobbfcknaaGreatDoorRow1
import Derived.Test.YtplmdlobbfcknaaGreatDoorMeR0
import Derived.Test.YtplmdlobbfcknaaGreatDoorCards
import Derived.Test.YtplmdlobbfcknaaGreatDoorTie
namespace Go.Proofs.YtplmdlobbfcknaaGreatDoor.tailBegins
open Go Go.Me Go.ChangeShapes Go.WideShapes Go.ChangeAt Go.RowKit
open Go.ChangeMaps (open_string shut_string)
set_option linter.unusedVariables false

theorem begins_calls (a1 a2 : Option Addr) (c1 c2 : Nat) (bs cs : List UInt8) (w : World) (hL : Laid cfg0 w ∧ 0 < w.heap.size) (m1 : bs.length ≤ maxLen) (m2 : cs.length ≤ maxLen) (y1 : Byt w (.slice a1 bs.length c1) bs) (y2 : Byt w (.slice a2 cs.length c2) cs) :
    Calls Tryz.prog 4 #[.slice a1 bs.length c1, .slice a2 cs.length c2] w fun e w' => e = .returned (.bool true) ∧ Below w.heap.size w w' := by
  by_cases h : bs.length ≠ 3 ∨ 300 < cs.length
  · exact begins_long a1 a2 _ _ c1 c2 w hL.1 h m1 m2
  · have h3 : bs.length = 3 := Decidable.byContradiction fun e => h (.inl e)
    have h300 : cs.length ≤ 300 := Nat.le_of_not_lt fun e => h (.inr e)
    match bs, h3, y1 with
    | [x0, x1, x2], _, y1 =>
      rcases y1 with ⟨e, _⟩ | ⟨a, cap, e, hc⟩
      · cases e
      · cases e
        exact begins_main a a2 c1 c2 x0 x1 x2 cs w hL.1 hL.2 h300 (.inr ⟨a, c1, rfl, hc⟩) y2

set_option maxRecDepth 100000 in
theorem lifted (os : Os) (started : os.Started) (H : Type) (enc : TypeId × Value → H) :
    ReturnsInHanded {} Tryz.checked os 4 .any (fun w args => (Rows.tailBeginsSpec.pre enc Tryz.prog Tryz.f4 [] false w args ∧ laidMetH Tryz.prog laids w) ∧ sizedMet enc Tryz.prog Tryz.f4 (OpenSpec.ofChange Rows.tailBeginsSpec) false w args)
      (Rows.tailBeginsSpec.post enc Tryz.prog Tryz.f4 false true false false) := by
  refine returnsInHanded_of_change_and (C := Tryz.checked) (X := fun w _ => laidMetH Tryz.prog laids w) (fun _ _ _ hh h => h.of_heap hh) own started (by kernel_rfl) Tryz.func4
    (ChangeSpec.witness_shaped (enc := enc) (C := Tryz.checked) (os := os) (X := fun w _ => laidMetH Tryz.prog laids w) false (laidWorld os) #[.slice none 0 0, .slice none 0 0] 8 rfl (World.shaped_of_RefB (by kernel_rfl) (by kernel_rfl)) (by kernel_rfl) (by kernel_rfl) (by kernel_rfl) (door_met os _)) ?_
  intro W base args ds gs before hval0 hW _ _ hL _
  have hval : ∀ (j : Nat) t v, Tryz.f4.params[j]? = some t → args[j]? = some v → Value.okWide Tryz.prog W .any base t v := hval0
  have hW' := hW
  obtain ⟨p, q, hA0, hV, rfl, hfz, hnd⟩ := hW
  have hA : DataW.TrodAll enc Tryz.prog W 0 (fun _ => true) true Tryz.f4.params.toList args.toList ds p := hA0
  rw [Tryz.params4] at hA hval
  obtain ⟨v0, vs0, d0, ds0, p0, q0, hargs, rfl, rfl, h0, r0⟩ := trodAll_cons hA
  obtain ⟨v1, vs1, d1, ds1, p1, q1, rfl, rfl, rfl, h1, r1⟩ := trodAll_cons r0
  obtain ⟨rfl, rfl, rfl⟩ := trodAll_nil r1
  obtain rfl : args = #[v0, v1] := by cases args; simp_all
  obtain ⟨rfl, rfl⟩ := trodVars_none hV
  have lt0 : ∀ x ∈ p0, x.block < W.heap.size := by obtain ⟨m, hm⟩ := h0; exact DataW.trod_lt m _ _ _ hm
  have lt1 : ∀ x ∈ p1, x.block < W.heap.size := by obtain ⟨m, hm⟩ := h1; exact DataW.trod_lt m _ _ _ hm
  obtain ⟨a1, c1, bs, rfl, m1, y1⟩ := open_byt (hval 0 22 v0 rfl rfl) h0
  obtain ⟨a2, c2, cs, rfl, m2, y2⟩ := open_byt (hval 1 22 v1 rfl rfl) h1
  clear hA0 hval0
  simp only [List.append_nil] at hW'
  refine (begins_calls a1 a2 c1 c2 bs cs W (laid_of hL) m1 m2 y1 y2).mono fun e W' ⟨he, bel⟩ => ?_
  subst he
  exact ⟨_, rfl, _, _, _, [], _, [], hW', trodAll_mk1 (shut_bool Tryz.underlying4 _), (trodAll_cons_mk (Below.trod laidOut (by kernel_rfl) (of_decide_eq_true (by kernel_rfl)) h0 bel lt0) (trodAll_cons_mk (Below.trod laidOut (by kernel_rfl) (of_decide_eq_true (by kernel_rfl)) h1 bel lt1) trodAll_mk0)), rfl, bel.frame _, fun h => by cases h⟩
end Go.Proofs.YtplmdlobbfcknaaGreatDoor.tailBegins
