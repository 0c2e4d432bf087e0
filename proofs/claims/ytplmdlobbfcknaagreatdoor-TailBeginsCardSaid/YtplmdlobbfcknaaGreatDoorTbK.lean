/- TailBegins: the law walked. Own work. -/
import Derived.Test.YtplmdlobbfcknaaGreatDoorTbJ
import Derived.Deep.RegionHeld
namespace Go.Proofs.YtplmdlobbfcknaaGreatDoor
open Go Go.RowKit Go.Me
set_option linter.unusedVariables false
set_option linter.unusedSimpArgs false
set_option maxRecDepth 100000

theorem begins_long (p1 p2 : Option Addr) (n1 n2 k1 k2 : Nat) (w : World) (hL : Laid cfg0 w) (hn : n1 ≠ 3 ∨ 300 < n2) (m1 : n1 ≤ maxLen) (m2 : n2 ≤ maxLen) :
    Calls Tryz.prog 4 #[.slice p1 n1 k1, .slice p2 n2 k2] w fun e w' => e = .returned (.bool true) ∧ Below w.heap.size w w' := by
  have kc : Aside _ := known_calls w hL
  unfold maxLen at m1 m2
  clear hL
  by_cases h3 : n1 = 3
  · have h300 : 300 < n2 := hn.resolve_left (fun h => h h3)
    subst h3
    have e2 : ((300 : Int) < (n2 : Int)) := by omega
    clear hn m1
    go_enter Tryz.func4, Tryz.ntmps4
    go_wp2_with (first
      | (go_at_call 5; go_must (
          refine Calls.mono kc.out ?_; rintro e' w1 ⟨rfl, B1⟩
          replace B1 : Aside _ := B1
          clear kc))
      | go_in)
    go_ret
    exact ⟨rfl, B1.out⟩
  · have e1 : ((n1 : Int) = 3) = False := by simp; omega
    clear hn
    go_enter Tryz.func4, Tryz.ntmps4
    go_wp2_with (first
      | (go_at_call 5; go_must (
          refine Calls.mono kc.out ?_; rintro e' w1 ⟨rfl, B1⟩
          replace B1 : Aside _ := B1
          clear kc))
      | go_in)
    go_ret
    exact ⟨rfl, B1.out⟩
theorem conv_first {w : World} {a1 : Addr} {cap : Nat} {x0 x1 x2 : UInt8} (h : Byt w (.slice (some a1) 3 cap) [x0, x1, x2]) : (convert 22 9 (.slice (some a1) 3 cap)).run Tryz.prog w = .ok (.string ⟨#[x0, x1, x2]⟩) w := by
  rcases h with ⟨h, _⟩ | ⟨a, c, e, hc⟩
  · cases h
  · cases e
    exact conv3 a1 cap x0 x1 x2 w (by have := hc 0 x0 rfl; rwa [show a1.add 0 = a1 by unfold Addr.add; split <;> simp_all] at this) (hc 1 x1 rfl) (hc 2 x2 rfl)
/-- the foot stands -/
abbrev S12 (p : Nat) (S : Nat) (w' : World) : Prop := w'.cell? ⟨p, 0, none⟩ = some (.int .i64 0) ∧ w'.cell? ⟨p, 1, none⟩ = some (.slice none 0 0) ∧ w'.cell? ⟨p, 2, none⟩ = some (.int .i64 12) ∧ w'.cell? ⟨p, 3, none⟩ = some (.slice none 0 0) ∧ w'.cell? ⟨p, 4, none⟩ = some (.slice none 0 0) ∧ w'.cell? ⟨p, 5, none⟩ = some (.int .i64 0) ∧ w'.cell? ⟨p, 6, none⟩ = some (.int .i64 0) ∧ w'.cell? ⟨p, 7, none⟩ = some (.int .i64 0) ∧ w'.cell? ⟨p, 8, none⟩ = some (.slice none 0 0) ∧ w'.cell? ⟨p, 9, none⟩ = some (.int .i64 0) ∧ w'.cell? ⟨p, 10, none⟩ = some (.slice (some ⟨S, 0, none⟩) 1 1) ∧ w'.cell? ⟨p, 11, none⟩ = some (.int .i64 0)
theorem S12.of {p S : Nat} {w : World} {t : TypeId} (h : BoxN w t p [.int .i64 0, .slice none 0 0, .int .i64 12, .slice none 0 0, .slice none 0 0, .int .i64 0, .int .i64 0, .int .i64 0, .slice none 0 0, .int .i64 0, .slice (some ⟨S, 0, none⟩) 1 1, .int .i64 0]) : S12 p S w := by
  refine ⟨?_, ?_, ?_, ?_, ?_, ?_, ?_, ?_, ?_, ?_, ?_, ?_⟩ <;> rw [h.cell] <;> rfl
set_option maxHeartbeats 8000000 in
theorem begins_main (a1 : Addr) (p2 : Option Addr) (cap1 cap2 : Nat) (x0 x1 x2 : UInt8) (cs : List UInt8) (w : World) (hL : Laid cfg0 w) (h0 : 0 < w.heap.size) (hn : cs.length ≤ 300)
    (b1 : Byt w (.slice (some a1) 3 cap1) [x0, x1, x2]) (b2 : Byt w (.slice p2 cs.length cap2) cs) :
    Calls Tryz.prog 4 #[.slice (some a1) 3 cap1, .slice p2 cs.length cap2] w fun e w' => e = .returned (.bool true) ∧ Below w.heap.size w w' := by
  have kc : Aside _ := known_calls w hL
  obtain ⟨k, hk⟩ : ∃ k, cs.length = k := ⟨_, rfl⟩
  rw [hk] at hn b2 ⊢
  have e2 : ¬ ((300 : Int) < (k : Int)) := by omega
  replace hk : Aside _ := hk
  replace hL : Aside _ := hL
  replace h0 : Aside _ := h0
  replace b1 : Aside _ := b1
  replace b2 : Aside _ := b2
  go_enter Tryz.func4, Tryz.ntmps4
  go_wp2_with (first
    | (go_at_call 5; go_must (
        refine Calls.mono kc.out ?_; rintro e' w1 ⟨rfl, B1⟩
        have L1 : Aside (Laid cfg0 w1) := laid_to hL.out h0.out B1
        have y1 : Aside _ := Byt.keep b1.out B1.block
        have y2 : Aside _ := Byt.keep b2.out B1.block
        replace B1 : Aside _ := B1
        clear kc hL b1 b2))
    | go_in)
  have g1 : w1.grownBy ((w1.alloc (.cells #[.int .i64 0, .bool false, .bool false, .bool false, .int .i64 0, .int .i64 0, .slice none 0 0, .slice none 0 0, .bool false, .int .i64 0, .int .i64 0, .slice none 0 0, .slice none 0 0, .bool false, .int .i64 0] 33)).alloc (.cells #[.int .i64 0, .slice none 0 0, .int .i64 12, .slice none 0 0, .slice none 0 0, .int .i64 0, .int .i64 0, .int .i64 0, .slice none 0 0, .int .i64 0, .slice (some ⟨w1.heap.size, 0, none⟩) 1 1, .int .i64 0] 37)).drew none := grown_drew (grown_alloc (World.grownBy_alloc _ _ _) _)
  have bft : BoxN ((w1.alloc (.cells #[.int .i64 0, .bool false, .bool false, .bool false, .int .i64 0, .int .i64 0, .slice none 0 0, .slice none 0 0, .bool false, .int .i64 0, .int .i64 0, .slice none 0 0, .slice none 0 0, .bool false, .int .i64 0] 33)).alloc (.cells #[.int .i64 0, .slice none 0 0, .int .i64 12, .slice none 0 0, .slice none 0 0, .int .i64 0, .int .i64 0, .int .i64 0, .slice none 0 0, .int .i64 0, .slice (some ⟨w1.heap.size, 0, none⟩) 1 1, .int .i64 0] 37)).drew 37 (w1.heap.size + 1) [.int .i64 0, .slice none 0 0, .int .i64 12, .slice none 0 0, .slice none 0 0, .int .i64 0, .int .i64 0, .int .i64 0, .slice none 0 0, .int .i64 0, .slice (some ⟨w1.heap.size, 0, none⟩) 1 1, .int .i64 0] := ⟨by
    show ((w1.alloc (.cells #[.int .i64 0, .bool false, .bool false, .bool false, .int .i64 0, .int .i64 0, .slice none 0 0, .slice none 0 0, .bool false, .int .i64 0, .int .i64 0, .slice none 0 0, .slice none 0 0, .bool false, .int .i64 0] 33)).alloc (.cells #[.int .i64 0, .slice none 0 0, .int .i64 12, .slice none 0 0, .slice none 0 0, .int .i64 0, .int .i64 0, .int .i64 0, .slice none 0 0, .int .i64 0, .slice (some ⟨w1.heap.size, 0, none⟩) 1 1, .int .i64 0] 37)).heap[w1.heap.size + 1]? = _
    have := World.alloc_heap_new (w1.alloc (.cells #[.int .i64 0, .bool false, .bool false, .bool false, .int .i64 0, .int .i64 0, .slice none 0 0, .slice none 0 0, .bool false, .int .i64 0, .int .i64 0, .slice none 0 0, .slice none 0 0, .bool false, .int .i64 0] 33)) (.cells #[.int .i64 0, .slice none 0 0, .int .i64 12, .slice none 0 0, .slice none 0 0, .int .i64 0, .int .i64 0, .int .i64 0, .slice none 0 0, .int .i64 0, .slice (some ⟨w1.heap.size, 0, none⟩) 1 1, .int .i64 0] 37)
    rwa [show (w1.alloc (.cells #[.int .i64 0, .bool false, .bool false, .bool false, .int .i64 0, .int .i64 0, .slice none 0 0, .slice none 0 0, .bool false, .int .i64 0, .int .i64 0, .slice none 0 0, .slice none 0 0, .bool false, .int .i64 0] 33)).heap.size = w1.heap.size + 1 by simp] at this⟩
  have bst : RowAt ((w1.alloc (.cells #[.int .i64 0, .bool false, .bool false, .bool false, .int .i64 0, .int .i64 0, .slice none 0 0, .slice none 0 0, .bool false, .int .i64 0, .int .i64 0, .slice none 0 0, .slice none 0 0, .bool false, .int .i64 0] 33)).alloc (.cells #[.int .i64 0, .slice none 0 0, .int .i64 12, .slice none 0 0, .slice none 0 0, .int .i64 0, .int .i64 0, .int .i64 0, .slice none 0 0, .int .i64 0, .slice (some ⟨w1.heap.size, 0, none⟩) 1 1, .int .i64 0] 37)).drew w1.heap.size stL := by
    refine RowAt.of (e := 33) ?_
    show ((w1.alloc (.cells #[.int .i64 0, .bool false, .bool false, .bool false, .int .i64 0, .int .i64 0, .slice none 0 0, .slice none 0 0, .bool false, .int .i64 0, .int .i64 0, .slice none 0 0, .slice none 0 0, .bool false, .int .i64 0] 33)).alloc (.cells #[.int .i64 0, .slice none 0 0, .int .i64 12, .slice none 0 0, .slice none 0 0, .int .i64 0, .int .i64 0, .int .i64 0, .slice none 0 0, .int .i64 0, .slice (some ⟨w1.heap.size, 0, none⟩) 1 1, .int .i64 0] 37)).heap[w1.heap.size]? = _
    rw [Below.heap_alloc _ _ _ (by simp)]
    exact World.alloc_heap_new _ _
  have test : (fun w' => w'.cell? ⟨w1.heap.size + 1, 0, none⟩ = some (.int .i64 0) ∧ w'.cell? ⟨w1.heap.size + 1, 1, none⟩ = some (.slice none 0 0) ∧ w'.cell? ⟨w1.heap.size + 1, 2, none⟩ = some (.int .i64 12) ∧ w'.cell? ⟨w1.heap.size + 1, 3, none⟩ = some (.slice none 0 0) ∧ w'.cell? ⟨w1.heap.size + 1, 4, none⟩ = some (.slice none 0 0) ∧ w'.cell? ⟨w1.heap.size + 1, 5, none⟩ = some (.int .i64 0) ∧ w'.cell? ⟨w1.heap.size + 1, 6, none⟩ = some (.int .i64 0) ∧ w'.cell? ⟨w1.heap.size + 1, 7, none⟩ = some (.int .i64 0) ∧ w'.cell? ⟨w1.heap.size + 1, 8, none⟩ = some (.slice none 0 0) ∧ w'.cell? ⟨w1.heap.size + 1, 9, none⟩ = some (.int .i64 0) ∧ w'.cell? ⟨w1.heap.size + 1, 10, none⟩ = some (.slice (some ⟨w1.heap.size, 0, none⟩) 1 1) ∧ w'.cell? ⟨w1.heap.size + 1, 11, none⟩ = some (.int .i64 0)) ((w1.alloc (.cells #[.int .i64 0, .bool false, .bool false, .bool false, .int .i64 0, .int .i64 0, .slice none 0 0, .slice none 0 0, .bool false, .int .i64 0, .int .i64 0, .slice none 0 0, .slice none 0 0, .bool false, .int .i64 0] 33)).alloc (.cells #[.int .i64 0, .slice none 0 0, .int .i64 12, .slice none 0 0, .slice none 0 0, .int .i64 0, .int .i64 0, .int .i64 0, .slice none 0 0, .int .i64 0, .slice (some ⟨w1.heap.size, 0, none⟩) 1 1, .int .i64 0] 37)).drew := S12.of bft
  refine wp_region_noPanic ?_
  refine wp_region_held_drew (S := (fun w' => w'.cell? ⟨w1.heap.size + 1, 0, none⟩ = some (.int .i64 0) ∧ w'.cell? ⟨w1.heap.size + 1, 1, none⟩ = some (.slice none 0 0) ∧ w'.cell? ⟨w1.heap.size + 1, 2, none⟩ = some (.int .i64 12) ∧ w'.cell? ⟨w1.heap.size + 1, 3, none⟩ = some (.slice none 0 0) ∧ w'.cell? ⟨w1.heap.size + 1, 4, none⟩ = some (.slice none 0 0) ∧ w'.cell? ⟨w1.heap.size + 1, 5, none⟩ = some (.int .i64 0) ∧ w'.cell? ⟨w1.heap.size + 1, 6, none⟩ = some (.int .i64 0) ∧ w'.cell? ⟨w1.heap.size + 1, 7, none⟩ = some (.int .i64 0) ∧ w'.cell? ⟨w1.heap.size + 1, 8, none⟩ = some (.slice none 0 0) ∧ w'.cell? ⟨w1.heap.size + 1, 9, none⟩ = some (.int .i64 0) ∧ w'.cell? ⟨w1.heap.size + 1, 10, none⟩ = some (.slice (some ⟨w1.heap.size, 0, none⟩) 1 1) ∧ w'.cell? ⟨w1.heap.size + 1, 11, none⟩ = some (.int .i64 0))) (by kernel_rfl) test (fun hHeld => ?_)
  refine wpAnyH_take (i := 1) (oi := _) (v := ?_) rfl (by kernel_rfl) (by kernel_rfl) (by kernel_rfl) (fun _ _ _ h => h) (Or.inl ⟨by rfl, ?_⟩) (by assumption) ?_
  rotate_left
  · intro w hSw
    (try dsimp only at hSw)
    go_simp
    (try with_reducible rfl)
  try simp only [Act.put, List.setIfInBounds_toArray, List.set_cons_zero, List.set_cons_succ]
  refine wpAnyH_take (i := 3) (oi := _) (v := ?_) rfl (by kernel_rfl) (by kernel_rfl) (by kernel_rfl) (fun _ _ _ h => h) (Or.inl ⟨by rfl, ?_⟩) (by assumption) ?_
  rotate_left
  · intro w hSw
    (try dsimp only at hSw)
    go_simp
    (try with_reducible rfl)
  try simp only [Act.put, List.setIfInBounds_toArray, List.set_cons_zero, List.set_cons_succ]
  refine wpAnyH_take (i := 5) (oi := _) (v := ?_) rfl (by kernel_rfl) (by kernel_rfl) (by kernel_rfl) (fun _ _ _ h => h) (Or.inl ⟨by rfl, ?_⟩) (by assumption) ?_
  rotate_left
  · intro w hSw
    (try dsimp only at hSw)
    go_simp
    (try with_reducible rfl)
  try simp only [Act.put, List.setIfInBounds_toArray, List.set_cons_zero, List.set_cons_succ]
  refine wpAnyH_take (i := 6) (oi := _) (v := ?_) rfl (by kernel_rfl) (by kernel_rfl) (by kernel_rfl) (fun _ _ _ h => h) (Or.inl ⟨by rfl, ?_⟩) (by assumption) ?_
  rotate_left
  · intro w hSw
    (try dsimp only at hSw)
    go_simp
    (try with_reducible rfl)
  try simp only [Act.put, List.setIfInBounds_toArray, List.set_cons_zero, List.set_cons_succ]
  refine wpAnyH_ready (rs := [0]) (by kernel_rfl) (by simp) ?_
  refine AllReadyH.cons (o := _) rfl (fun K hK => ?_) AllReadyH.nil
  go_simp
  have gW : w1.grownBy (((w1.alloc (.cells #[.int .i64 0, .bool false, .bool false, .bool false, .int .i64 0, .int .i64 0, .slice none 0 0, .slice none 0 0, .bool false, .int .i64 0, .int .i64 0, .slice none 0 0, .slice none 0 0, .bool false, .int .i64 0] 33)).alloc (.cells #[.int .i64 0, .slice none 0 0, .int .i64 12, .slice none 0 0, .slice none 0 0, .int .i64 0, .int .i64 0, .int .i64 0, .slice none 0 0, .int .i64 0, .slice (some ⟨w1.heap.size, 0, none⟩) 1 1, .int .i64 0] 37)).alloc (.cells #[] 5)).drew none := grown_drew (grown_alloc (grown_alloc (World.grownBy_alloc _ _ _) _) _)
  have bft2 : BoxN (((w1.alloc (.cells #[.int .i64 0, .bool false, .bool false, .bool false, .int .i64 0, .int .i64 0, .slice none 0 0, .slice none 0 0, .bool false, .int .i64 0, .int .i64 0, .slice none 0 0, .slice none 0 0, .bool false, .int .i64 0] 33)).alloc (.cells #[.int .i64 0, .slice none 0 0, .int .i64 12, .slice none 0 0, .slice none 0 0, .int .i64 0, .int .i64 0, .int .i64 0, .slice none 0 0, .int .i64 0, .slice (some ⟨w1.heap.size, 0, none⟩) 1 1, .int .i64 0] 37)).alloc (.cells #[] 5)).drew 37 (w1.heap.size + 1) [.int .i64 0, .slice none 0 0, .int .i64 12, .slice none 0 0, .slice none 0 0, .int .i64 0, .int .i64 0, .int .i64 0, .slice none 0 0, .int .i64 0, .slice (some ⟨w1.heap.size, 0, none⟩) 1 1, .int .i64 0] := bft.same (by show (((w1.alloc (.cells #[.int .i64 0, .bool false, .bool false, .bool false, .int .i64 0, .int .i64 0, .slice none 0 0, .slice none 0 0, .bool false, .int .i64 0, .int .i64 0, .slice none 0 0, .slice none 0 0, .bool false, .int .i64 0] 33)).alloc (.cells #[.int .i64 0, .slice none 0 0, .int .i64 12, .slice none 0 0, .slice none 0 0, .int .i64 0, .int .i64 0, .int .i64 0, .slice none 0 0, .int .i64 0, .slice (some ⟨w1.heap.size, 0, none⟩) 1 1, .int .i64 0] 37)).alloc (.cells #[] 5)).heap[w1.heap.size + 1]? = ((w1.alloc (.cells #[.int .i64 0, .bool false, .bool false, .bool false, .int .i64 0, .int .i64 0, .slice none 0 0, .slice none 0 0, .bool false, .int .i64 0, .int .i64 0, .slice none 0 0, .slice none 0 0, .bool false, .int .i64 0] 33)).alloc (.cells #[.int .i64 0, .slice none 0 0, .int .i64 12, .slice none 0 0, .slice none 0 0, .int .i64 0, .int .i64 0, .int .i64 0, .slice none 0 0, .int .i64 0, .slice (some ⟨w1.heap.size, 0, none⟩) 1 1, .int .i64 0] 37)).heap[w1.heap.size + 1]?; exact Below.heap_alloc _ _ _ (by simp))
  have bst2 : RowAt (((w1.alloc (.cells #[.int .i64 0, .bool false, .bool false, .bool false, .int .i64 0, .int .i64 0, .slice none 0 0, .slice none 0 0, .bool false, .int .i64 0, .int .i64 0, .slice none 0 0, .slice none 0 0, .bool false, .int .i64 0] 33)).alloc (.cells #[.int .i64 0, .slice none 0 0, .int .i64 12, .slice none 0 0, .slice none 0 0, .int .i64 0, .int .i64 0, .int .i64 0, .slice none 0 0, .int .i64 0, .slice (some ⟨w1.heap.size, 0, none⟩) 1 1, .int .i64 0] 37)).alloc (.cells #[] 5)).drew w1.heap.size stL := bst.same (by show (((w1.alloc (.cells #[.int .i64 0, .bool false, .bool false, .bool false, .int .i64 0, .int .i64 0, .slice none 0 0, .slice none 0 0, .bool false, .int .i64 0, .int .i64 0, .slice none 0 0, .slice none 0 0, .bool false, .int .i64 0] 33)).alloc (.cells #[.int .i64 0, .slice none 0 0, .int .i64 12, .slice none 0 0, .slice none 0 0, .int .i64 0, .int .i64 0, .int .i64 0, .slice none 0 0, .int .i64 0, .slice (some ⟨w1.heap.size, 0, none⟩) 1 1, .int .i64 0] 37)).alloc (.cells #[] 5)).heap[w1.heap.size]? = ((w1.alloc (.cells #[.int .i64 0, .bool false, .bool false, .bool false, .int .i64 0, .int .i64 0, .slice none 0 0, .slice none 0 0, .bool false, .int .i64 0, .int .i64 0, .slice none 0 0, .slice none 0 0, .bool false, .int .i64 0] 33)).alloc (.cells #[.int .i64 0, .slice none 0 0, .int .i64 12, .slice none 0 0, .slice none 0 0, .int .i64 0, .int .i64 0, .int .i64 0, .slice none 0 0, .int .i64 0, .slice (some ⟨w1.heap.size, 0, none⟩) 1 1, .int .i64 0] 37)).heap[w1.heap.size]?; exact Below.heap_alloc _ _ _ (by simp; omega))
  have own0 : World.ownsRow (((w1.alloc (.cells #[.int .i64 0, .bool false, .bool false, .bool false, .int .i64 0, .int .i64 0, .slice none 0 0, .slice none 0 0, .bool false, .int .i64 0, .int .i64 0, .slice none 0 0, .slice none 0 0, .bool false, .int .i64 0] 33)).alloc (.cells #[.int .i64 0, .slice none 0 0, .int .i64 12, .slice none 0 0, .slice none 0 0, .int .i64 0, .int .i64 0, .int .i64 0, .slice none 0 0, .int .i64 0, .slice (some ⟨w1.heap.size, 0, none⟩) 1 1, .int .i64 0] 37)).alloc (.cells #[] 5)).drew (w1.heap.size + 2) 5 1 (.slice (some ⟨w1.heap.size + 1 + 1, 0, none⟩) 0 0) 0 [] := ⟨rfl, .inr ⟨w1.heap.size + 1 + 1, 0, #[], rfl, Nat.le_refl _, (by show (((w1.alloc (.cells #[.int .i64 0, .bool false, .bool false, .bool false, .int .i64 0, .int .i64 0, .slice none 0 0, .slice none 0 0, .bool false, .int .i64 0, .int .i64 0, .slice none 0 0, .slice none 0 0, .bool false, .int .i64 0] 33)).alloc (.cells #[.int .i64 0, .slice none 0 0, .int .i64 12, .slice none 0 0, .slice none 0 0, .int .i64 0, .int .i64 0, .int .i64 0, .slice none 0 0, .int .i64 0, .slice (some ⟨w1.heap.size, 0, none⟩) 1 1, .int .i64 0] 37)).alloc (.cells #[] 5)).heap[w1.heap.size + 1 + 1]? = _; have := World.alloc_heap_new ((w1.alloc (.cells #[.int .i64 0, .bool false, .bool false, .bool false, .int .i64 0, .int .i64 0, .slice none 0 0, .slice none 0 0, .bool false, .int .i64 0, .int .i64 0, .slice none 0 0, .slice none 0 0, .bool false, .int .i64 0] 33)).alloc (.cells #[.int .i64 0, .slice none 0 0, .int .i64 12, .slice none 0 0, .slice none 0 0, .int .i64 0, .int .i64 0, .int .i64 0, .slice none 0 0, .int .i64 0, .slice (some ⟨w1.heap.size, 0, none⟩) 1 1, .int .i64 0] 37)) (.cells #[] 5); rwa [show ((w1.alloc (.cells #[.int .i64 0, .bool false, .bool false, .bool false, .int .i64 0, .int .i64 0, .slice none 0 0, .slice none 0 0, .bool false, .int .i64 0, .int .i64 0, .slice none 0 0, .slice none 0 0, .bool false, .int .i64 0] 33)).alloc (.cells #[.int .i64 0, .slice none 0 0, .int .i64 12, .slice none 0 0, .slice none 0 0, .int .i64 0, .int .i64 0, .int .i64 0, .slice none 0 0, .int .i64 0, .slice (some ⟨w1.heap.size, 0, none⟩) 1 1, .int .i64 0] 37)).heap.size = w1.heap.size + 1 + 1 by simp] at this), Nat.le_refl _, Nat.zero_le _, rfl, rfl⟩⟩
  have z2 : ((((w1.alloc (.cells #[.int .i64 0, .bool false, .bool false, .bool false, .int .i64 0, .int .i64 0, .slice none 0 0, .slice none 0 0, .bool false, .int .i64 0, .int .i64 0, .slice none 0 0, .slice none 0 0, .bool false, .int .i64 0] 33)).alloc (.cells #[.int .i64 0, .slice none 0 0, .int .i64 12, .slice none 0 0, .slice none 0 0, .int .i64 0, .int .i64 0, .int .i64 0, .slice none 0 0, .int .i64 0, .slice (some ⟨w1.heap.size, 0, none⟩) 1 1, .int .i64 0] 37)).alloc (.cells #[] 5)).drew).heap.size = w1.heap.size + 3 := by show (((w1.alloc (.cells #[.int .i64 0, .bool false, .bool false, .bool false, .int .i64 0, .int .i64 0, .slice none 0 0, .slice none 0 0, .bool false, .int .i64 0, .int .i64 0, .slice none 0 0, .slice none 0 0, .bool false, .int .i64 0] 33)).alloc (.cells #[.int .i64 0, .slice none 0 0, .int .i64 12, .slice none 0 0, .slice none 0 0, .int .i64 0, .int .i64 0, .int .i64 0, .slice none 0 0, .int .i64 0, .slice (some ⟨w1.heap.size, 0, none⟩) 1 1, .int .i64 0] 37)).alloc (.cells #[] 5)).heap.size = _; simp
  obtain ⟨W2, hW2⟩ : ∃ W, (((w1.alloc (.cells #[.int .i64 0, .bool false, .bool false, .bool false, .int .i64 0, .int .i64 0, .slice none 0 0, .slice none 0 0, .bool false, .int .i64 0, .int .i64 0, .slice none 0 0, .slice none 0 0, .bool false, .int .i64 0] 33)).alloc (.cells #[.int .i64 0, .slice none 0 0, .int .i64 12, .slice none 0 0, .slice none 0 0, .int .i64 0, .int .i64 0, .int .i64 0, .slice none 0 0, .int .i64 0, .slice (some ⟨w1.heap.size, 0, none⟩) 1 1, .int .i64 0] 37)).alloc (.cells #[] 5)).drew = W := ⟨_, rfl⟩
  rw [hW2] at gW bft2 bst2 own0 z2 ⊢
  clear hW2 bft bst g1
  refine hK.out _ _ (S12.of bft2) (fun hHeld => ?_)
  clear hK K
  try simp only [Act.put, List.setIfInBounds_toArray, List.set_cons_zero, List.set_cons_succ]
  refine wpAnyH_ready (rs := [2]) (by kernel_rfl) (by simp) ?_
  refine AllReadyH.cons (o := _) rfl (fun K hK => ?_) AllReadyH.nil
  refine step_append_any rfl _ _ rfl (w1.heap.size + 2) _ _ 0 [] [x0, x1, x2] rfl rfl own0 (Byt.keep y1.out (fun b hb => gW.block b hb (by simp))) (by simp) (by omega) ?_
  intro v3 w3 own3 g3 ob3
  have s3 := g3.size
  have bft3 := bft2.same (g3.block _ (by omega) (fun e => by have e2 : _ = w1.heap.size + 1 + 1 := Option.some.inj e; omega))
  have bst3 := bst2.same (g3.block _ (by omega) (fun e => by have e2 : _ = w1.heap.size + 1 + 1 := Option.some.inj e; omega))
  have low3 : ∀ b, b < w1.heap.size → w3.heap[b]? = w1.heap[b]? := fun b hb => (g3.block b (by omega) (fun e => by have e2 : _ = w1.heap.size + 1 + 1 := Option.some.inj e; omega)).trans (gW.block b hb (by simp))
  refine hK.out _ _ (S12.of bft3) (fun hHeld => ?_)
  clear hK K
  try simp only [Act.put, List.setIfInBounds_toArray, List.set_cons_zero, List.set_cons_succ]
  refine wpAnyH_ready (rs := [4]) (by kernel_rfl) (by simp) ?_
  refine AllReadyH.cons (o := _) rfl (fun K hK => ?_) AllReadyH.nil
  refine step_append_any rfl _ _ rfl (w1.heap.size + 2) _ _ _ _ cs rfl rfl own3 (Byt.keep y2.out low3) (by simp [hk.out]; omega) (by omega) ?_
  intro v4 w4 own4 g4 ob4
  have s4 := g4.size
  have l3 := own3.lt
  have bft4 := bft3.same (g4.block _ (by omega) (fun e => by have := l3 _ e.symm; omega))
  have bst4 := bst3.same (g4.block _ (by omega) (fun e => by have := l3 _ e.symm; omega))
  have low4 : ∀ b, b < w1.heap.size → w4.heap[b]? = w1.heap[b]? := fun b hb => (g4.block b (by omega) (fun e => by have := l3 _ e.symm; omega)).trans (low3 b hb)
  have l4 := own4.lt
  have B4 : Below w1.heap.size w1 w4 := ⟨g4.os.trans (g3.os.trans gW.os), g4.tape.trans (g3.tape.trans gW.tape), g4.output.trans (g3.output.trans gW.output), by omega, low4⟩
  refine hK.out _ _ (S12.of bft4) (fun hHeld => ?_)
  clear hK K
  try simp only [Act.put, List.setIfInBounds_toArray, List.set_cons_zero, List.set_cons_succ]
  refine wpAnyH_ready (rs := [7]) (by kernel_rfl) (by simp) ?_
  refine AllReadyH.cons (o := _) rfl (fun K hK => ?_) AllReadyH.nil
  go_simp
  go_at_call 7
  have hB1 := B1.out.size
  refine Calls.mono (close_calls w1.heap.size _ w1.heap.size _ _ _ (laid_to L1.out (by have := h0.out; omega) B4) (by have := h0.out; omega) (by omega) (Nat.le_refl _) bst4 (World.ownsRow.mono own4 (by omega)) (fun e => by have := l4 _ e; omega) (by simp [hk.out]; omega)) ?_
  rintro e' w5 ⟨v5, rfl, own5, B5, F5⟩
  have bft5 := bft4.same (F5 _ bft4.lt (by omega) (fun e => by have := l4 _ e; omega))
  refine hK.out _ _ (S12.of bft5) (fun hHeld => ?_)
  clear hK K
  try simp only [Act.put, List.setIfInBounds_toArray, List.set_cons_zero, List.set_cons_succ]
  refine wpAnyH_take (i := 8) (oi := _) (v := ?_) rfl (by kernel_rfl) (by kernel_rfl) (by kernel_rfl) (fun _ _ _ h => h) (Or.inl ⟨by rfl, ?_⟩) (by assumption) ?_
  rotate_left
  · intro w hSw
    (try dsimp only at hSw)
    go_simp
    (try with_reducible rfl)
  try simp only [Act.put, List.setIfInBounds_toArray, List.set_cons_zero, List.set_cons_succ]
  refine wpAnyH_done (by kernel_rfl) ?_ _
  refine NoPanic.normal ?_
  have own5s : w5.ownsRow w1.heap.size 5 1 v5 (3 + k + 40) ([.int .u8 x0.toNat, .int .u8 x1.toNat, .int .u8 x2.toNat] ++ bytV cs ++ winV) := by
    have h := own5
    rw [hk.out] at h
    rw [show 0 + [x0, x1, x2].length + k = 3 + k from by simp] at h
    exact h
  obtain ⟨G, capG, rfl, hG, hF⟩ := FileAt.ofRow own5s (by omega)
  have B15 : Below w1.heap.size w1 w5 := B4.trans B5
  have hB1 := B1.out.size
  have hp1 : 0 < w1.heap.size := by have := h0.out; omega
  have L5 : Laid cfg0 w5 := laid_to L1.out hp1 B15
  have low5 : ∀ b, b < w1.heap.size → w5.heap[b]? = w1.heap[b]? := B15.block
  clear hHeld test own5s own5 B5 F5 bft5 bft4 bst4 bft3 bst3 bft2 bst2 low4 low3 own4 own3 own0 g4 g3 gW ob3 ob4 s3 s4 z2 l3 l4 B4
  by_cases hx : isFile x0 x1 x2 = true
  · obtain ⟨hx0, hx1, hx2⟩ : x0 = 79 ∧ x1 = 82 ∧ x2 = 67 := of_decide_eq_true hx
    have ex : (!x0 == 79 || (!x1 == 82 || !x2 == 67)) = false := by rw [hx0, hx1, hx2]; rfl
    clear hx0 hx1 hx2
    have fo : Aside _ := open_yes G capG (3 + k) w1.heap.size x0 x1 x2 w5 hF hx L5 hp1 B15.size hG
    replace B15 : Aside _ := B15
    replace L5 : Aside _ := L5
    replace low5 : Aside _ := low5
    replace hB1 : Aside _ := hB1
    replace hp1 : Aside _ := hp1
    replace hF : Aside _ := hF
    replace hG : Aside _ := hG
    go_wp2_with (first
      | (go_at_call 8; go_must (
          refine Calls.mono fo.out ?_; rintro e' w6 ⟨P, rfl, m6⟩
          have LOW : Aside (w5.heap.size ≤ w6.heap.size ∧ ∀ b, b < w1.heap.size → w6.heap[b]? = w5.heap[b]?) := ⟨m6.size, fun b hb => m6.block b (by have := B15.out.size; omega) (by have := hG.out; simp; omega)⟩
          have M6 : Aside (Mov [G] w5 w6) := m6
          clear m6
          have gA : w6.grownBy (w6.alloc (.cells #[.int .i64 18, .int .i64 0, .int .i64 0, .int .i64 0, .int .i64 0, .slice none 0 0, .int .i64 12, .slice none 0 0, .slice none 0 0, .int .i64 0, .int .i64 0, .int .i64 0, .slice none 0 0, .int .i64 0, .slice (some P) 1 1, .int .i64 0] 50)) none := World.grownBy_alloc _ _ _
          have keep : Byt w1 (.slice (some a1) 3 cap1) [x0, x1, x2] := y1.out
          have keepA : Byt (w6.alloc (.cells #[.int .i64 18, .int .i64 0, .int .i64 0, .int .i64 0, .int .i64 0, .slice none 0 0, .int .i64 12, .slice none 0 0, .slice none 0 0, .int .i64 0, .int .i64 0, .int .i64 0, .slice none 0 0, .int .i64 0, .slice (some P) 1 1, .int .i64 0] 50)) (.slice (some a1) 3 cap1) [x0, x1, x2] := Byt.keep keep (fun b hb => (gA.block b (by have := LOW.out.1; have := B15.out.size; omega) (by simp)).trans ((LOW.out.2 b hb).trans (low5.out b hb)))
          have cv := conv_first keepA
          clear gA keep keepA fo))
      | go_in)
    go_ret
    refine ⟨rfl, ?_⟩
    have q0 := hB1.out
    have q1 := B15.out.size
    exact ((B1.out.trans (B15.out.mono hB1.out)).trans (M6.out.below (by omega) (by have := hG.out; simp; omega))).trans ((grown_below (World.grownBy_alloc w6 _ none)).mono (by have := M6.out.size; omega))
  · have hxn := hx
    have ex : (!x0 == 79 || (!x1 == 82 || !x2 == 67)) = true := by
      have h : isFile x0 x1 x2 = false := by simpa using hx
      unfold isFile at h
      have h := of_decide_eq_false h
      by_cases h0 : x0 = 79
      · by_cases h1 : x1 = 82
        · have h2 : ¬ x2 = 67 := fun e => h ⟨h0, h1, e⟩
          simp [h2]
        · simp [h1]
      · simp [h0]
    have fo : Aside _ := open_not G capG (3 + k) x0 x1 x2 w5 hF (by simpa using hx)
    replace B15 : Aside _ := B15
    replace L5 : Aside _ := L5
    replace low5 : Aside _ := low5
    replace hB1 : Aside _ := hB1
    replace hp1 : Aside _ := hp1
    replace hF : Aside _ := hF
    replace hG : Aside _ := hG
    go_wp2_with (first
      | (go_at_call 8; go_must (
          refine Calls.mono fo.out ?_; rintro e' w6 ⟨F, rfl, hF0, rF, g6⟩
          have LOW : Aside (w5.heap.size ≤ w6.heap.size ∧ ∀ b, b < w1.heap.size → w6.heap[b]? = w5.heap[b]?) := ⟨g6.size, fun b hb => g6.block b (by have := B15.out.size; omega) (by simp)⟩
          have G6 : Aside (w5.grownBy w6 none) := g6
          replace rF : Aside _ := rF
          replace hF0 : Aside _ := hF0
          clear g6
          have gA : w6.grownBy (w6.alloc (.cells #[.int .i64 0, .int .i64 0, .int .i64 0, .int .i64 0, .int .i64 0, .slice none 0 0, .int .i64 0, .slice none 0 0, .slice none 0 0, .int .i64 0, .int .i64 0, .int .i64 0, .slice none 0 0, .int .i64 0, .slice none 0 0, .int .i64 0] 50)) none := World.grownBy_alloc _ _ _
          have keep : Byt w1 (.slice (some a1) 3 cap1) [x0, x1, x2] := y1.out
          have keepA : Byt (w6.alloc (.cells #[.int .i64 0, .int .i64 0, .int .i64 0, .int .i64 0, .int .i64 0, .slice none 0 0, .int .i64 0, .slice none 0 0, .slice none 0 0, .int .i64 0, .int .i64 0, .int .i64 0, .slice none 0 0, .int .i64 0, .slice none 0 0, .int .i64 0] 50)) (.slice (some a1) 3 cap1) [x0, x1, x2] := Byt.keep keep (fun b hb => (gA.block b (by have := LOW.out.1; have := B15.out.size; omega) (by simp)).trans ((LOW.out.2 b hb).trans (low5.out b hb)))
          have cv := conv_first keepA
          clear gA keep keepA fo))
      | (go_at_call 9; go_must (
          have q0 := hB1.out
          have q1 := B15.out.size
          have q2 := G6.out.size
          have q3 := hF0.out
          have q4 := RowAt.lt rF.out
          have gZ : w6.grownBy ((w6.alloc (.cells #[.int .i64 0, .int .i64 0, .int .i64 0, .int .i64 0, .int .i64 0, .slice none 0 0, .int .i64 0, .slice none 0 0, .slice none 0 0, .int .i64 0, .int .i64 0, .int .i64 0, .slice none 0 0, .int .i64 0, .slice none 0 0, .int .i64 0] 50)).alloc (.cells #[.string ⟨#[112, 111, 115, 116]⟩, .int .i64 0, .int .i64 0] 59)) none := grown_alloc (World.grownBy_alloc _ _ _) _
          refine Calls.mono (tells_calls (w := ((w6.alloc (.cells #[.int .i64 0, .int .i64 0, .int .i64 0, .int .i64 0, .int .i64 0, .slice none 0 0, .int .i64 0, .slice none 0 0, .slice none 0 0, .int .i64 0, .int .i64 0, .int .i64 0, .slice none 0 0, .int .i64 0, .slice none 0 0, .int .i64 0] 50)).alloc (.cells #[.string ⟨#[112, 111, 115, 116]⟩, .int .i64 0, .int .i64 0] 59))) (base := w1.heap.size) (laid_to L5.out hp1.out ((grown_below (grown_trans G6.out gZ)).mono (by omega))) hp1.out (by simp; omega) [112, 111, 115, 116] 0 2 tells_post F (w6.heap.size + 1) (by omega) (by omega) (by omega) (RowAt.same rF.out (gZ.block F q4 (by simp))) (row_alloc2 _ _ (prtL [112, 111, 115, 116] 0) 59 _ rfl)) ?_
          rintro e' w7 ⟨rfl, m7⟩
          replace m7 : Aside _ := m7
          clear q0 q1 q2 q3 q4 gZ))
      | go_in)
    go_ret
    refine ⟨rfl, ?_⟩
    have q0 := hB1.out
    have q1 := B15.out.size
    have q2 := G6.out.size
    have q3 := hF0.out
    have gZ : w6.grownBy ((w6.alloc (.cells #[.int .i64 0, .int .i64 0, .int .i64 0, .int .i64 0, .int .i64 0, .slice none 0 0, .int .i64 0, .slice none 0 0, .slice none 0 0, .int .i64 0, .int .i64 0, .int .i64 0, .slice none 0 0, .int .i64 0, .slice none 0 0, .int .i64 0] 50)).alloc (.cells #[.string ⟨#[112, 111, 115, 116]⟩, .int .i64 0, .int .i64 0] 59)) none := grown_alloc (World.grownBy_alloc _ _ _) _
    exact (((B1.out.trans (B15.out.mono hB1.out)).trans ((grown_below G6.out).mono (by omega))).trans ((grown_below gZ).mono (by omega))).trans (m7.out.below (by simp; omega) (by simp; omega))
end Go.Proofs.YtplmdlobbfcknaaGreatDoor
