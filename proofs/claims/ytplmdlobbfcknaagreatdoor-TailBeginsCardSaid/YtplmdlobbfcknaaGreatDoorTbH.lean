/- TailBegins: the tail, opened, of a file. Own work. -/
import Derived.Test.YtplmdlobbfcknaaGreatDoorTbG
import Derived.Deep.RegionHeld
import Derived.Deep.MidRow
namespace Go.Proofs.YtplmdlobbfcknaaGreatDoor
open Go Go.RowKit Go.Me
set_option linter.unusedVariables false
set_option linter.unusedSimpArgs false
set_option maxRecDepth 100000

/-- the postscript stands -/
abbrev S4 (p : Nat) (w' : World) : Prop := w'.cell? ⟨p, 0, none⟩ = some (.int .i64 18) ∧ w'.cell? ⟨p, 1, none⟩ = some (.int .i64 0) ∧ w'.cell? ⟨p, 2, none⟩ = some (.int .i64 0) ∧ w'.cell? ⟨p, 3, none⟩ = some (.int .i64 0)
theorem S4.of {p : Nat} {w : World} {e : TypeId} {fr : Nat × Nat} (h : w.heap[p]? = some (.cells [Value.int .i64 18, Value.int .i64 0, Value.int .i64 0, Value.int .i64 0].toArray e fr)) : S4 p w := by
  refine ⟨?_, ?_, ?_, ?_⟩ <;> simp [World.cell?, h]
theorem S4.grown {p : Nat} {w w' : World} (h : S4 p w) (g : w.grownBy w' none) : S4 p w' := ⟨g.cell h.1 (by simp), g.cell h.2.1 (by simp), g.cell h.2.2.1 (by simp), g.cell h.2.2.2 (by simp)⟩
theorem ite_on {b : Bool} {A B : Prop} (h : b = true) (ha : A) : if b = true then A else B := by rw [if_pos h]; exact ha
theorem BoxN.there {w : World} {t g : Nat} {cs : List Value} (h : BoxN w t g cs) : w.there g 0 cs.length := fun j hj => by
  rw [Nat.zero_add]
  exact ⟨by rw [h.cell]; simp [hj], frozen_of_row _ _ _ _ _ h.row⟩
theorem stored_box (V : World) (T : Nat) (P : Addr) (N : BoxN V 48 T [.int .i64 0, .slice none 0 0, .int .i64 0, .slice none 0 0, .slice none 0 0, .int .i64 0, .int .i64 0, .int .i64 0, .slice none 0 0, .int .i64 0, .slice none 0 0, .int .i64 0]) : ∃ W, V.setCells T 0 (#[.int .i64 0, .slice none 0 0, .int .i64 12, .slice none 0 0, .slice none 0 0, .int .i64 0, .int .i64 0, .int .i64 0, .slice none 0 0, .int .i64 0, .slice (some P) 1 1, .int .i64 0] : Array Value).toList = W ∧ BoxN W 48 T [.int .i64 0, .slice none 0 0, .int .i64 12, .slice none 0 0, .slice none 0 0, .int .i64 0, .int .i64 0, .int .i64 0, .slice none 0 0, .int .i64 0, .slice (some P) 1 1, .int .i64 0] ∧ (∀ k, k ≠ T → W.heap[k]? = V.heap[k]?) ∧ W.heap.size = V.heap.size ∧ W.os = V.os ∧ W.tape = V.tape ∧ W.output = V.output := by
  obtain ⟨g1, g2, g3, g4, g5, g6⟩ := setCells_heap [.int .i64 0, .slice none 0 0, .int .i64 12, .slice none 0 0, .slice none 0 0, .int .i64 0, .int .i64 0, .int .i64 0, .slice none 0 0, .int .i64 0, .slice (some P) 1 1, .int .i64 0] V T 0 N.row
  exact ⟨_, rfl, ⟨g1⟩, g2, g3, g4, g5, g6⟩
set_option maxHeartbeats 8000000 in
theorem open_yes (G cap m base : Nat) (x0 x1 x2 : UInt8) (w : World) (h : FileAt w G cap m x0 x1 x2) (hx : isFile x0 x1 x2 = true) (hL : Laid cfg0 w) (h0 : 0 < base) (hbw : base ≤ w.heap.size) (hG : base ≤ G) :
    Calls Tryz.prog 8 #[.slice (some ⟨G, 0, none⟩) (m + 40) cap] w fun e w' => ∃ P : Addr, e = .returned (.tuple #[.agg #[.int .i64 18, .int .i64 0, .int .i64 0, .int .i64 0, .int .i64 0, .slice none 0 0, .int .i64 12, .slice none 0 0, .slice none 0 0, .int .i64 0, .int .i64 0, .int .i64 0, .slice none 0 0, .int .i64 0, .slice (some P) 1 1, .int .i64 0], .nilIface]) ∧ Mov [G] w w' := by
  obtain ⟨wq, hwq⟩ : ∃ wq, w.alloc (.cells #[.int .i64 0, .int .i64 0, .int .i64 0, .int .i64 0, .int .i64 0, .slice none 0 0, .int .i64 0, .slice none 0 0, .slice none 0 0, .int .i64 0, .int .i64 0, .int .i64 0, .slice none 0 0, .int .i64 0, .slice none 0 0, .int .i64 0] 50) = wq := ⟨_, rfl⟩
  have gq : w.grownBy wq none := hwq ▸ World.grownBy_alloc _ _ _
  have sq : wq.heap.size = w.heap.size + 1 := by rw [← hwq]; simp
  have hq : FileAt wq G cap m x0 x1 x2 := ⟨gq.cell h.c0 (by simp), gq.cell h.c1 (by simp), gq.cell h.c2 (by simp), h.win.same (gq.block G h.win.lt (by simp)), h.le, h.fit, h.few, h.more⟩
  have bq : BoxN wq 50 w.heap.size [.int .i64 0, .int .i64 0, .int .i64 0, .int .i64 0, .int .i64 0, .slice none 0 0, .int .i64 0, .slice none 0 0, .slice none 0 0, .int .i64 0, .int .i64 0, .int .i64 0, .slice none 0 0, .int .i64 0, .slice none 0 0, .int .i64 0] := ⟨by rw [← hwq]; exact World.alloc_heap_new _ _⟩
  have Lq : Laid cfg0 wq := laid_to hL h0 ((grown_below gq).mono hbw)
  have fn := last_yes G cap m base x0 x1 x2 wq hq hx Lq h0 (by omega) hG
  have hG' : G < w.heap.size := h.win.lt
  have hfew := h.few
  have hmore := h.more
  have hle := h.le
  have hfit := h.fit
  unfold maxLen at hfit
  have ew : IntKind.i64.wrap (m : Int) = (m : Int) := by rw [IntKind.wrap_i64]; omega
  have n2 : (m : Int) + 18 - 18 = (m : Int) := by omega
  replace fn : Aside _ := fn
  replace gq : Aside _ := gq
  replace bq : Aside _ := bq
  replace Lq : Aside _ := Lq
  replace sq : Aside _ := sq
  replace h0 : Aside _ := h0
  replace hbw : Aside _ := hbw
  replace hG : Aside _ := hG
  replace hG' : Aside _ := hG'
  clear hq h hL
  go_enter Tryz.func8, Tryz.ntmps8
  go_wp2_with (first
    | (go_at_call 21; go_must (
        refine Calls.mono fn.out ?_; rintro e' w1 ⟨rfl, hw, m1⟩
        have z1 := sq.out
        have z2 := hG'.out
        have z3 := hbw.out
        have z4 := m1.size
        have b1 : BoxN w1 50 w.heap.size [.int .i64 0, .int .i64 0, .int .i64 0, .int .i64 0, .int .i64 0, .slice none 0 0, .int .i64 0, .slice none 0 0, .slice none 0 0, .int .i64 0, .int .i64 0, .int .i64 0, .slice none 0 0, .int .i64 0, .slice none 0 0, .int .i64 0] := bq.out.same (m1.block _ (by omega) (by simp; omega))
        have M1 : Aside (Mov [G] w w1) := (Mov.grown gq.out).trans m1
        have L1 : Laid cfg0 w1 := laid_to Lq.out h0.out (m1.below (by omega) (by simp; exact hG.out))
        have hs1 : Aside (G < w.heap.size ∧ w.heap.size < w1.heap.size) := ⟨z2, by omega⟩
        have g1 : w1.grownBy (w1.alloc (.cells #[.int .i64 18, .int .i64 0, .int .i64 0, .int .i64 0] 44)).drew none := grown_drew (World.grownBy_alloc _ _ _)
        have b1' : Aside (BoxN (w1.alloc (.cells #[.int .i64 18, .int .i64 0, .int .i64 0, .int .i64 0] 44)).drew 50 w.heap.size [.int .i64 0, .int .i64 0, .int .i64 0, .int .i64 0, .int .i64 0, .slice none 0 0, .int .i64 0, .slice none 0 0, .slice none 0 0, .int .i64 0, .int .i64 0, .int .i64 0, .slice none 0 0, .int .i64 0, .slice none 0 0, .int .i64 0]) := b1.same (g1.block _ b1.lt (by simp))
        have b4 : Aside (BoxN (w1.alloc (.cells #[.int .i64 18, .int .i64 0, .int .i64 0, .int .i64 0] 44)).drew 44 w1.heap.size [.int .i64 18, .int .i64 0, .int .i64 0, .int .i64 0]) := ⟨by show (w1.alloc (.cells #[.int .i64 18, .int .i64 0, .int .i64 0, .int .i64 0] 44)).heap[w1.heap.size]? = _; exact World.alloc_heap_new _ _⟩
        have hw1 : ObAt (w1.alloc (.cells #[.int .i64 18, .int .i64 0, .int .i64 0, .int .i64 0] 44)).drew G (cap - m, m) winB := ObAt.same hw (g1.block G (by omega) (by simp))
        have fc : Aside _ := footer_calls (laid_to L1 h0.out ((grown_below g1).mono (by omega))) h0.out (by show base ≤ (w1.alloc (.cells #[.int .i64 18, .int .i64 0, .int .i64 0, .int .i64 0] 44)).heap.size; simp; omega) hG.out (by omega) hw1
        have hwB : ObAt ((w1.alloc (.cells #[.int .i64 18, .int .i64 0, .int .i64 0, .int .i64 0] 44)).drew.alloc (.cells #[.int .i64 0, .slice none 0 0, .int .i64 0, .slice none 0 0, .slice none 0 0, .int .i64 0, .int .i64 0, .int .i64 0, .slice none 0 0, .int .i64 0, .slice none 0 0, .int .i64 0] 48)) G (cap - m, m) winB := ObAt.same hw1 ((World.grownBy_alloc (w1.alloc (.cells #[.int .i64 18, .int .i64 0, .int .i64 0, .int .i64 0] 44)).drew (.cells #[.int .i64 0, .slice none 0 0, .int .i64 0, .slice none 0 0, .slice none 0 0, .int .i64 0, .int .i64 0, .int .i64 0, .slice none 0 0, .int .i64 0, .slice none 0 0, .int .i64 0] 48) none).block G (by simp; omega) (by simp))
        have fcB : Aside _ := footer_calls (laid_to L1 h0.out ((grown_below (grown_trans g1 (World.grownBy_alloc (w1.alloc (.cells #[.int .i64 18, .int .i64 0, .int .i64 0, .int .i64 0] 44)).drew (.cells #[.int .i64 0, .slice none 0 0, .int .i64 0, .slice none 0 0, .slice none 0 0, .int .i64 0, .int .i64 0, .int .i64 0, .slice none 0 0, .int .i64 0, .slice none 0 0, .int .i64 0] 48) none))).mono (by omega))) h0.out (by show base ≤ ((w1.alloc (.cells #[.int .i64 18, .int .i64 0, .int .i64 0, .int .i64 0] 44)).drew.alloc (.cells #[.int .i64 0, .slice none 0 0, .int .i64 0, .slice none 0 0, .slice none 0 0, .int .i64 0, .int .i64 0, .int .i64 0, .slice none 0 0, .int .i64 0, .slice none 0 0, .int .i64 0] 48)).heap.size; simp; omega) hG.out (by omega) hwB
        have M4 : Aside (Mov [G] w (w1.alloc (.cells #[.int .i64 18, .int .i64 0, .int .i64 0, .int .i64 0] 44)).drew) := M1.out.trans (.grown g1)
        clear z1 z2 z3 z4 L1 M1 hw hw1 hwB g1 b1 m1 bq gq fn hwq Lq sq))
    | go_in)
  have test : (fun w' => w'.cell? ⟨w1.heap.size, 0, none⟩ = some (.int .i64 18) ∧ w'.cell? ⟨w1.heap.size, 1, none⟩ = some (.int .i64 0) ∧ w'.cell? ⟨w1.heap.size, 2, none⟩ = some (.int .i64 0) ∧ w'.cell? ⟨w1.heap.size, 3, none⟩ = some (.int .i64 0)) (w1.alloc (.cells #[.int .i64 18, .int .i64 0, .int .i64 0, .int .i64 0] 44)).drew := S4.of b4.out.row
  refine wp_region_noPanic ?_
  refine wp_region_held_drew (S := (fun w' => w'.cell? ⟨w1.heap.size, 0, none⟩ = some (.int .i64 18) ∧ w'.cell? ⟨w1.heap.size, 1, none⟩ = some (.int .i64 0) ∧ w'.cell? ⟨w1.heap.size, 2, none⟩ = some (.int .i64 0) ∧ w'.cell? ⟨w1.heap.size, 3, none⟩ = some (.int .i64 0))) (by kernel_rfl) test (fun hHeld => ?_)
  refine wpAnyH_take (i := 0) (oi := _) (v := ?_) rfl (by kernel_rfl) (by kernel_rfl) (by kernel_rfl) (fun _ _ _ h => h) (Or.inl ⟨by rfl, ?_⟩) (by assumption) ?_
  rotate_left
  · intro w hSw
    (try dsimp only at hSw)
    go_simp
    (try with_reducible rfl)
  try simp only [Act.put, List.setIfInBounds_toArray, List.set_cons_zero, List.set_cons_succ]
  refine wpAnyH_take (i := 1) (oi := _) (v := ?_) rfl (by kernel_rfl) (by kernel_rfl) (by kernel_rfl) (fun _ _ _ h => h) (Or.inl ⟨by rfl, ?_⟩) (by assumption) ?_
  rotate_left
  · intro w hSw
    (try dsimp only at hSw)
    go_simp
    (try with_reducible rfl)
  try simp only [Act.put, List.setIfInBounds_toArray, List.set_cons_zero, List.set_cons_succ]
  refine wpAnyH_take (i := 2) (oi := _) (v := ?_) rfl (by kernel_rfl) (by kernel_rfl) (by kernel_rfl) (fun _ _ _ h => h) (Or.inl ⟨by rfl, ?_⟩) (by assumption) ?_
  rotate_left
  · intro w hSw
    (try dsimp only at hSw)
    go_simp
    (try with_reducible rfl)
  try simp only [Act.put, List.setIfInBounds_toArray, List.set_cons_zero, List.set_cons_succ]
  refine wpAnyH_take (i := 3) (oi := _) (v := ?_) rfl (by kernel_rfl) (by kernel_rfl) (by kernel_rfl) (fun _ _ _ h => h) (Or.inl ⟨by rfl, ?_⟩) (by assumption) ?_
  rotate_left
  · intro w hSw
    (try dsimp only at hSw)
    go_simp
    (try with_reducible rfl)
  try simp only [Act.put, List.setIfInBounds_toArray, List.set_cons_zero, List.set_cons_succ]
  refine wpAnyH_take (i := 4) (oi := _) (v := ?_) rfl (by kernel_rfl) (by kernel_rfl) (by kernel_rfl) (fun _ _ _ h => h) (Or.inl ⟨by rfl, ?_⟩) (by assumption) ?_
  rotate_left
  · intro w hSw
    (try dsimp only at hSw)
    go_simp
    (try with_reducible rfl)
  try simp only [Act.put, List.setIfInBounds_toArray, List.set_cons_zero, List.set_cons_succ]
  refine wpAnyH_take (i := 5) (oi := _) (v := ?_) rfl (by kernel_rfl) (by kernel_rfl) (by kernel_rfl) (fun _ _ _ h => h) (Or.inl ⟨by rfl, ?_⟩) (by assumption) ?_
  rotate_left
  · intro w hSw
    (try dsimp only at hSw)
    go_simp
    (try with_reducible rfl)
  try simp only [Act.put, List.setIfInBounds_toArray, List.set_cons_zero, List.set_cons_succ]
  refine wpAnyH_take (i := 6) (oi := _) (v := .slice (some ⟨G, m, none⟩) 18 (cap - m)) rfl (by kernel_rfl) (by kernel_rfl) (by kernel_rfl) (fun _ _ _ h => h) (Or.inl ⟨by rfl, ?_⟩) (by assumption) ?_
  · intro w hSw
    (try dsimp only at hSw)
    go_simp
    rw [if_pos (by omega), if_pos (by omega), if_neg (by omega), show ((m : Int) + 18).toNat - m = 18 by omega]
  try simp only [Act.put, List.setIfInBounds_toArray, List.set_cons_zero, List.set_cons_succ]
  refine wpAnyH_take (i := 7) (oi := _) (v := ?_) rfl (by kernel_rfl) (by kernel_rfl) (by kernel_rfl) (fun _ _ _ h => h) (Or.inl ⟨by rfl, ?_⟩) (by assumption) ?_
  rotate_left
  · intro w hSw
    (try dsimp only at hSw)
    go_simp
    (try with_reducible rfl)
  try simp only [Act.put, List.setIfInBounds_toArray, List.set_cons_zero, List.set_cons_succ]
  refine wpAnyH_ready (rs := [8, 12]) (by kernel_rfl) (by simp) ?_
  refine (AllReadyH.cons (o := _) rfl (fun K hK => ?_) (AllReadyH.cons (o := _) rfl (fun K hK => ?_) AllReadyH.nil))
  · go_simp
    go_at_call 23
    refine Calls.mono fc.out ?_
    rintro e' w2 ⟨P, rfl, m2⟩
    have q1 := hs1.out
    have b2 := b1'.out.same (m2.block _ (by simp; omega) (by simp; omega))
    have B2 := b4.out.same (m2.block _ (by first | (simp; done) | (simp; omega)) (by simp; omega))
    have s2 : S4 w1.heap.size w2 := S4.of B2.row
    refine hK.out _ _ s2 (fun hHeld => ?_)
    clear hK K
    try simp only [Act.put, List.setIfInBounds_toArray, List.set_cons_zero, List.set_cons_succ]
    refine wpAnyH_take (i := 9) (oi := _) (v := ?_) rfl (by kernel_rfl) (by kernel_rfl) (by kernel_rfl) (fun _ _ _ h => h) (Or.inl ⟨by rfl, ?_⟩) (by assumption) ?_
    rotate_left
    · intro w hSw
      (try dsimp only at hSw)
      go_simp
      (try with_reducible rfl)
    try simp only [Act.put, List.setIfInBounds_toArray, List.set_cons_zero, List.set_cons_succ]
    refine wpAnyH_take (i := 10) (oi := _) (v := ?_) rfl (by kernel_rfl) (by kernel_rfl) (by kernel_rfl) (fun _ _ _ h => h) (Or.inl ⟨by rfl, ?_⟩) (by assumption) ?_
    rotate_left
    · intro w hSw
      (try dsimp only at hSw)
      go_simp
      (try with_reducible rfl)
    try simp only [Act.put, List.setIfInBounds_toArray, List.set_cons_zero, List.set_cons_succ]
    refine wpAnyH_take (i := 11) (oi := _) (v := ?_) rfl (by kernel_rfl) (by kernel_rfl) (by kernel_rfl) (fun _ _ _ h => h) (Or.inl ⟨by rfl, ?_⟩) (by assumption) ?_
    rotate_left
    · intro w hSw
      (try dsimp only at hSw)
      go_simp
      (try with_reducible rfl)
    try simp only [Act.put, List.setIfInBounds_toArray, List.set_cons_zero, List.set_cons_succ]
    refine wpAnyH_ready (rs := [12]) (by kernel_rfl) (by simp) ?_
    refine AllReadyH.cons (o := _) rfl (fun K hK => ?_) AllReadyH.nil
    go_simp
    have N2 : BoxN (w2.alloc (.cells #[.int .i64 0, .slice none 0 0, .int .i64 0, .slice none 0 0, .slice none 0 0, .int .i64 0, .int .i64 0, .int .i64 0, .slice none 0 0, .int .i64 0, .slice none 0 0, .int .i64 0] 48)) 48 w2.heap.size [.int .i64 0, .slice none 0 0, .int .i64 0, .slice none 0 0, .slice none 0 0, .int .i64 0, .int .i64 0, .int .i64 0, .slice none 0 0, .int .i64 0, .slice none 0 0, .int .i64 0] := ⟨World.alloc_heap_new _ _⟩
    have g3 := World.grownBy_alloc w2 (.cells #[.int .i64 0, .slice none 0 0, .int .i64 0, .slice none 0 0, .slice none 0 0, .int .i64 0, .int .i64 0, .int .i64 0, .slice none 0 0, .int .i64 0, .slice none 0 0, .int .i64 0] 48) none
    have B3 := B2.same (g3.block _ B2.lt (by simp))
    have b3 := b2.same (g3.block _ b2.lt (by simp))
    have M3 := (M4.out.trans m2).trans (.grown g3)
    have l3 := B2.lt
    have l4 := M4.out.size
    have l5 := m2.size
    refine hK.out _ _ (s2.grown g3) (fun hHeld => ?_)
    clear hK K
    try simp only [Act.put, List.setIfInBounds_toArray, List.set_cons_zero, List.set_cons_succ]
    refine wpAnyH_ready (rs := [13]) (by kernel_rfl) (by simp) ?_
    refine AllReadyH.cons (o := _) rfl (fun K hK => ?_) AllReadyH.nil
    refine ite_on (by rfl) ?_
    obtain ⟨Wz, hWz, Nz, kz, sz, rz1, rz2, rz3⟩ := stored_box (w2.alloc (.cells #[.int .i64 0, .slice none 0 0, .int .i64 0, .slice none 0 0, .slice none 0 0, .int .i64 0, .int .i64 0, .int .i64 0, .slice none 0 0, .int .i64 0, .slice none 0 0, .int .i64 0] 48)) w2.heap.size P N2
    refine wp_store_mid 48 _ _ rfl w2.heap.size 0 #[.int .i64 0, .slice none 0 0, .int .i64 12, .slice none 0 0, .slice none 0 0, .int .i64 0, .int .i64 0, .int .i64 0, .slice none 0 0, .int .i64 0, .slice (some P) 1 1, .int .i64 0] rfl rfl N2.there (by kernel_rfl) (by simp [Value.oneCell']) ?_
    rw [hWz]
    have Bz := B3.same (kz _ (by omega))
    have bz := b3.same (kz _ (by omega))
    have sz4 : S4 w1.heap.size Wz := S4.of Bz.row
    have Mz : Mov [G] w Wz := ⟨rz1.trans M3.os, rz2.trans M3.tape, rz3.trans M3.output, Nat.le_trans M3.size (Nat.le_of_eq sz.symm), fun k hk hX => (kz k (by omega)).trans (M3.block k hk hX)⟩
    refine hK.out _ _ sz4 (fun hHeld => ?_)
    clear hK K
    try simp only [Act.put, List.setIfInBounds_toArray, List.set_cons_zero, List.set_cons_succ]
    refine wpAnyH_take (i := 14) (oi := _) (v := ?_) rfl (by kernel_rfl) (by kernel_rfl) (by kernel_rfl) (fun _ _ _ h => h) (Or.inl ⟨by rfl, ?_⟩) (by assumption) ?_
    rotate_left
    · intro w hSw
      (try dsimp only at hSw)
      go_simp
      (try with_reducible rfl)
    try simp only [Act.put, List.setIfInBounds_toArray, List.set_cons_zero, List.set_cons_succ]
    refine wpAnyH_done (by kernel_rfl) ?_ _
    refine NoPanic.normal ?_
    have f0 := frozen_of_row Wz w.heap.size 0 _ 50 bz.row
    have f1 := frozen_of_row Wz w.heap.size 1 _ 50 bz.row
    have f2 := frozen_of_row Wz w.heap.size 2 _ 50 bz.row
    have f3 := frozen_of_row Wz w.heap.size 3 _ 50 bz.row
    have f4 := frozen_of_row Wz w.heap.size 4 _ 50 bz.row
    have f5 := frozen_of_row Wz w.heap.size 5 _ 50 bz.row
    have f6 := frozen_of_row Wz w.heap.size 6 _ 50 bz.row
    have f7 := frozen_of_row Wz w.heap.size 7 _ 50 bz.row
    have f8 := frozen_of_row Wz w.heap.size 8 _ 50 bz.row
    have f9 := frozen_of_row Wz w.heap.size 9 _ 50 bz.row
    have f10 := frozen_of_row Wz w.heap.size 10 _ 50 bz.row
    have f11 := frozen_of_row Wz w.heap.size 11 _ 50 bz.row
    have f12 := frozen_of_row Wz w.heap.size 12 _ 50 bz.row
    have f13 := frozen_of_row Wz w.heap.size 13 _ 50 bz.row
    have f14 := frozen_of_row Wz w.heap.size 14 _ 50 bz.row
    have f15 := frozen_of_row Wz w.heap.size 15 _ 50 bz.row
    have o0 := bz.cell 0
    have o1 := bz.cell 1
    have o2 := bz.cell 2
    have o3 := bz.cell 3
    have o4 := bz.cell 4
    have o5 := bz.cell 5
    have o6 := bz.cell 6
    have o7 := bz.cell 7
    have o8 := bz.cell 8
    have o9 := bz.cell 9
    have o10 := bz.cell 10
    have o11 := bz.cell 11
    have o12 := bz.cell 12
    have o13 := bz.cell 13
    have o14 := bz.cell 14
    have o15 := bz.cell 15
    simp only [List.getElem?_cons_succ, List.getElem?_cons_zero] at o0 o1 o2 o3 o4 o5 o6 o7 o8 o9 o10 o11 o12 o13 o14 o15
    have u0 := Nz.cell 0
    have u1 := Nz.cell 1
    have u2 := Nz.cell 2
    have u3 := Nz.cell 3
    have u4 := Nz.cell 4
    have u5 := Nz.cell 5
    have u6 := Nz.cell 6
    have u7 := Nz.cell 7
    have u8 := Nz.cell 8
    have u9 := Nz.cell 9
    have u10 := Nz.cell 10
    have u11 := Nz.cell 11
    simp only [List.getElem?_cons_succ, List.getElem?_cons_zero] at u0 u1 u2 u3 u4 u5 u6 u7 u8 u9 u10 u11
    obtain ⟨s40, s41, s42, s43⟩ := sz4
    have hz : w.heap.size < Wz.heap.size := bz.lt
    replace Mz : Aside _ := Mz
    clear hWz Nz kz sz rz1 rz2 rz3 Bz bz B3 b3 M3 N2 l3 l4 B2 b2 s2 m2 q1 hHeld test
    go_wp2
    refine wp_loop_once ?_
    go_wp2
    refine bodyPost_ret (v := .tuple #[.agg #[.int .i64 18, .int .i64 0, .int .i64 0, .int .i64 0, .int .i64 0, .slice none 0 0, .int .i64 12, .slice none 0 0, .slice none 0 0, .int .i64 0, .int .i64 0, .int .i64 0, .slice none 0 0, .int .i64 0, .slice (some P) 1 1, .int .i64 0], .nilIface]) (by simp [results, Tryz.results8, go_sem, o0, o1, o2, o3, o4, o5, o6, o7, o8, o9, o10, o11, o12, o13, o14, o15]) rfl ⟨P, rfl, ?_⟩
    iterate 16 refine Mov.set ?_ (Nat.le_refl _)
    exact Mz.out
  · go_simp
    have g0 := World.grownBy_alloc (w1.alloc (.cells #[.int .i64 18, .int .i64 0, .int .i64 0, .int .i64 0] 44)).drew (.cells #[.int .i64 0, .slice none 0 0, .int .i64 0, .slice none 0 0, .slice none 0 0, .int .i64 0, .int .i64 0, .int .i64 0, .slice none 0 0, .int .i64 0, .slice none 0 0, .int .i64 0] 48) none
    have c1 := b1'.out.same (g0.block _ b1'.out.lt (by simp))
    have c4 := b4.out.same (g0.block _ b4.out.lt (by simp))
    have n0 : BoxN ((w1.alloc (.cells #[.int .i64 18, .int .i64 0, .int .i64 0, .int .i64 0] 44)).drew.alloc (.cells #[.int .i64 0, .slice none 0 0, .int .i64 0, .slice none 0 0, .slice none 0 0, .int .i64 0, .int .i64 0, .int .i64 0, .slice none 0 0, .int .i64 0, .slice none 0 0, .int .i64 0] 48)) 48 (w1.heap.size + 1) [.int .i64 0, .slice none 0 0, .int .i64 0, .slice none 0 0, .slice none 0 0, .int .i64 0, .int .i64 0, .int .i64 0, .slice none 0 0, .int .i64 0, .slice none 0 0, .int .i64 0] := ⟨by have := World.alloc_heap_new (w1.alloc (.cells #[.int .i64 18, .int .i64 0, .int .i64 0, .int .i64 0] 44)).drew (.cells #[.int .i64 0, .slice none 0 0, .int .i64 0, .slice none 0 0, .slice none 0 0, .int .i64 0, .int .i64 0, .int .i64 0, .slice none 0 0, .int .i64 0, .slice none 0 0, .int .i64 0] 48); rwa [show (w1.alloc (.cells #[.int .i64 18, .int .i64 0, .int .i64 0, .int .i64 0] 44)).drew.heap.size = w1.heap.size + 1 from (by show (w1.alloc (.cells #[.int .i64 18, .int .i64 0, .int .i64 0, .int .i64 0] 44)).heap.size = _; simp)] at this⟩
    refine hK.out _ _ (S4.of c4.row) (fun hHeld => ?_)
    clear hK K
    try simp only [Act.put, List.setIfInBounds_toArray, List.set_cons_zero, List.set_cons_succ]
    refine wpAnyH_ready (rs := [8]) (by kernel_rfl) (by simp) ?_
    refine AllReadyH.cons (o := _) rfl (fun K hK => ?_) AllReadyH.nil
    go_simp
    go_at_call 23
    refine Calls.mono fcB.out ?_
    rintro e' w2 ⟨P, rfl, m2⟩
    have q1 := hs1.out
    have b2 := c1.same (m2.block _ (by simp; omega) (by simp; omega))
    have B2 := c4.same (m2.block _ (by first | (simp; done) | (simp; omega)) (by simp; omega))
    have s2 : S4 w1.heap.size w2 := S4.of B2.row
    have N2 := n0.same (m2.block _ (by simp) (by simp; omega))
    have B3 := B2
    have b3 := b2
    have M3 := (M4.out.trans (.grown g0)).trans m2
    have l3 := m2.size
    simp at l3
    have l4 := M4.out.size
    refine hK.out _ _ s2 (fun hHeld => ?_)
    clear hK K
    try simp only [Act.put, List.setIfInBounds_toArray, List.set_cons_zero, List.set_cons_succ]
    refine wpAnyH_take (i := 9) (oi := _) (v := ?_) rfl (by kernel_rfl) (by kernel_rfl) (by kernel_rfl) (fun _ _ _ h => h) (Or.inl ⟨by rfl, ?_⟩) (by assumption) ?_
    rotate_left
    · intro w hSw
      (try dsimp only at hSw)
      go_simp
      (try with_reducible rfl)
    try simp only [Act.put, List.setIfInBounds_toArray, List.set_cons_zero, List.set_cons_succ]
    refine wpAnyH_take (i := 10) (oi := _) (v := ?_) rfl (by kernel_rfl) (by kernel_rfl) (by kernel_rfl) (fun _ _ _ h => h) (Or.inl ⟨by rfl, ?_⟩) (by assumption) ?_
    rotate_left
    · intro w hSw
      (try dsimp only at hSw)
      go_simp
      (try with_reducible rfl)
    try simp only [Act.put, List.setIfInBounds_toArray, List.set_cons_zero, List.set_cons_succ]
    refine wpAnyH_take (i := 11) (oi := _) (v := ?_) rfl (by kernel_rfl) (by kernel_rfl) (by kernel_rfl) (fun _ _ _ h => h) (Or.inl ⟨by rfl, ?_⟩) (by assumption) ?_
    rotate_left
    · intro w hSw
      (try dsimp only at hSw)
      go_simp
      (try with_reducible rfl)
    try simp only [Act.put, List.setIfInBounds_toArray, List.set_cons_zero, List.set_cons_succ]
    refine wpAnyH_ready (rs := [13]) (by kernel_rfl) (by simp) ?_
    refine AllReadyH.cons (o := _) rfl (fun K hK => ?_) AllReadyH.nil
    refine ite_on (by rfl) ?_
    obtain ⟨Wz, hWz, Nz, kz, sz, rz1, rz2, rz3⟩ := stored_box w2 (w1.heap.size + 1) P N2
    refine wp_store_mid 48 _ _ rfl (w1.heap.size + 1) 0 #[.int .i64 0, .slice none 0 0, .int .i64 12, .slice none 0 0, .slice none 0 0, .int .i64 0, .int .i64 0, .int .i64 0, .slice none 0 0, .int .i64 0, .slice (some P) 1 1, .int .i64 0] rfl rfl N2.there (by kernel_rfl) (by simp [Value.oneCell']) ?_
    rw [hWz]
    have Bz := B3.same (kz _ (by omega))
    have bz := b3.same (kz _ (by omega))
    have sz4 : S4 w1.heap.size Wz := S4.of Bz.row
    have Mz : Mov [G] w Wz := ⟨rz1.trans M3.os, rz2.trans M3.tape, rz3.trans M3.output, Nat.le_trans M3.size (Nat.le_of_eq sz.symm), fun k hk hX => (kz k (by omega)).trans (M3.block k hk hX)⟩
    refine hK.out _ _ sz4 (fun hHeld => ?_)
    clear hK K
    try simp only [Act.put, List.setIfInBounds_toArray, List.set_cons_zero, List.set_cons_succ]
    refine wpAnyH_take (i := 14) (oi := _) (v := ?_) rfl (by kernel_rfl) (by kernel_rfl) (by kernel_rfl) (fun _ _ _ h => h) (Or.inl ⟨by rfl, ?_⟩) (by assumption) ?_
    rotate_left
    · intro w hSw
      (try dsimp only at hSw)
      go_simp
      (try with_reducible rfl)
    try simp only [Act.put, List.setIfInBounds_toArray, List.set_cons_zero, List.set_cons_succ]
    refine wpAnyH_done (by kernel_rfl) ?_ _
    refine NoPanic.normal ?_
    have f0 := frozen_of_row Wz w.heap.size 0 _ 50 bz.row
    have f1 := frozen_of_row Wz w.heap.size 1 _ 50 bz.row
    have f2 := frozen_of_row Wz w.heap.size 2 _ 50 bz.row
    have f3 := frozen_of_row Wz w.heap.size 3 _ 50 bz.row
    have f4 := frozen_of_row Wz w.heap.size 4 _ 50 bz.row
    have f5 := frozen_of_row Wz w.heap.size 5 _ 50 bz.row
    have f6 := frozen_of_row Wz w.heap.size 6 _ 50 bz.row
    have f7 := frozen_of_row Wz w.heap.size 7 _ 50 bz.row
    have f8 := frozen_of_row Wz w.heap.size 8 _ 50 bz.row
    have f9 := frozen_of_row Wz w.heap.size 9 _ 50 bz.row
    have f10 := frozen_of_row Wz w.heap.size 10 _ 50 bz.row
    have f11 := frozen_of_row Wz w.heap.size 11 _ 50 bz.row
    have f12 := frozen_of_row Wz w.heap.size 12 _ 50 bz.row
    have f13 := frozen_of_row Wz w.heap.size 13 _ 50 bz.row
    have f14 := frozen_of_row Wz w.heap.size 14 _ 50 bz.row
    have f15 := frozen_of_row Wz w.heap.size 15 _ 50 bz.row
    have o0 := bz.cell 0
    have o1 := bz.cell 1
    have o2 := bz.cell 2
    have o3 := bz.cell 3
    have o4 := bz.cell 4
    have o5 := bz.cell 5
    have o6 := bz.cell 6
    have o7 := bz.cell 7
    have o8 := bz.cell 8
    have o9 := bz.cell 9
    have o10 := bz.cell 10
    have o11 := bz.cell 11
    have o12 := bz.cell 12
    have o13 := bz.cell 13
    have o14 := bz.cell 14
    have o15 := bz.cell 15
    simp only [List.getElem?_cons_succ, List.getElem?_cons_zero] at o0 o1 o2 o3 o4 o5 o6 o7 o8 o9 o10 o11 o12 o13 o14 o15
    have u0 := Nz.cell 0
    have u1 := Nz.cell 1
    have u2 := Nz.cell 2
    have u3 := Nz.cell 3
    have u4 := Nz.cell 4
    have u5 := Nz.cell 5
    have u6 := Nz.cell 6
    have u7 := Nz.cell 7
    have u8 := Nz.cell 8
    have u9 := Nz.cell 9
    have u10 := Nz.cell 10
    have u11 := Nz.cell 11
    simp only [List.getElem?_cons_succ, List.getElem?_cons_zero] at u0 u1 u2 u3 u4 u5 u6 u7 u8 u9 u10 u11
    obtain ⟨s40, s41, s42, s43⟩ := sz4
    have hz : w.heap.size < Wz.heap.size := bz.lt
    replace Mz : Aside _ := Mz
    clear hWz Nz kz sz rz1 rz2 rz3 Bz bz B3 b3 M3 N2 l3 l4 B2 b2 s2 m2 q1 hHeld test
    go_wp2
    refine wp_loop_once ?_
    go_wp2
    refine bodyPost_ret (v := .tuple #[.agg #[.int .i64 18, .int .i64 0, .int .i64 0, .int .i64 0, .int .i64 0, .slice none 0 0, .int .i64 12, .slice none 0 0, .slice none 0 0, .int .i64 0, .int .i64 0, .int .i64 0, .slice none 0 0, .int .i64 0, .slice (some P) 1 1, .int .i64 0], .nilIface]) (by simp [results, Tryz.results8, go_sem, o0, o1, o2, o3, o4, o5, o6, o7, o8, o9, o10, o11, o12, o13, o14, o15]) rfl ⟨P, rfl, ?_⟩
    iterate 16 refine Mov.set ?_ (Nat.le_refl _)
    exact Mz.out

end Go.Proofs.YtplmdlobbfcknaaGreatDoor
