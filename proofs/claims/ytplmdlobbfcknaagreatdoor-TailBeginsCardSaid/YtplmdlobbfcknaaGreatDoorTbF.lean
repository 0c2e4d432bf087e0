/- TailBegins: the postscript, read. Own work. -/
import Derived.Test.YtplmdlobbfcknaaGreatDoorTbE
namespace Go.Proofs.YtplmdlobbfcknaaGreatDoor
open Go Go.RowKit Go.Me
set_option linter.unusedVariables false
set_option linter.unusedSimpArgs false
set_option maxRecDepth 100000

set_option maxHeartbeats 2000000 in
theorem last_not (G cap m : Nat) (x0 x1 x2 : UInt8) (w : World) (h : FileAt w G cap m x0 x1 x2) (hx : isFile x0 x1 x2 = false) :
    Calls Tryz.prog 21 #[.slice (some ⟨G, 0, none⟩) (m + 40) cap] w fun e w' => e = .returned (.tuple #[.agg #[.int .i64 0, .int .i64 0, .int .i64 0, .int .i64 0], .int .i64 0, .int .i64 2]) ∧ w.grownBy w' none := by
  obtain ⟨wq, hwq⟩ : ∃ wq, w.alloc (.cells #[.int .i64 0, .int .i64 0, .int .i64 0, .int .i64 0] 44) = wq := ⟨_, rfl⟩
  have gq : w.grownBy wq none := hwq ▸ World.grownBy_alloc _ _ _
  have hq : FileAt wq G cap m x0 x1 x2 := ⟨gq.cell h.c0 (by simp), gq.cell h.c1 (by simp), gq.cell h.c2 (by simp), h.win.same (gq.block G h.win.lt (by simp)), h.le, h.fit, h.few, h.more⟩
  have bq : BoxN wq 44 w.heap.size [.int .i64 0, .int .i64 0, .int .i64 0, .int .i64 0] := ⟨by rw [← hwq]; exact World.alloc_heap_new _ _⟩
  have fn := find_not G cap m x0 x1 x2 wq hq hx
  have hfew := h.few
  have n1 : ¬ ((262144 : Int) < (m : Int) + 40) := by omega
  replace fn : Aside _ := fn
  replace gq : Aside _ := gq
  replace bq : Aside _ := bq
  clear hq h
  go_enter Tryz.func21, Tryz.ntmps21
  go_wp2_with (first
    | (go_at_call 43; go_must (
        refine Calls.mono fn.out ?_; rintro e' w1 ⟨rfl, g1⟩
        have b1 := bq.out.same (g1.block _ bq.out.lt (by simp))
        have G1 := grown_trans gq.out g1
        have f0 := frozen_of_row w1 w.heap.size 0 _ 44 b1.row
        have f1 := frozen_of_row w1 w.heap.size 1 _ 44 b1.row
        have f2 := frozen_of_row w1 w.heap.size 2 _ 44 b1.row
        have f3 := frozen_of_row w1 w.heap.size 3 _ 44 b1.row
        have o0 := b1.cell 0
        have o1 := b1.cell 1
        have o2 := b1.cell 2
        have o3 := b1.cell 3
        simp only [List.getElem?_cons_succ, List.getElem?_cons_zero] at o0 o1 o2 o3
        replace G1 : Aside _ := G1
        replace b1 : Aside _ := b1
        clear g1 bq gq fn hwq n1 hfew))
    | go_in)
  refine bodyPost_ret (v := .tuple #[.agg #[.int .i64 0, .int .i64 0, .int .i64 0, .int .i64 0], .int .i64 0, .int .i64 2]) (by simp [results, Tryz.results21, go_sem, o0, o1, o2, o3]) rfl ⟨rfl, ?_⟩
  exact grown_set (grown_set (grown_set (grown_set G1.out (Nat.le_refl _)) (Nat.le_refl _)) (Nat.le_refl _)) (Nat.le_refl _)
set_option maxHeartbeats 4000000 in
theorem cell_alloc_lt (W : World) (o : Obj) {b j : Nat} (h : b < W.heap.size) : (W.alloc o).cell? ⟨b, j, none⟩ = W.cell? ⟨b, j, none⟩ := World.cell?_of_block (w := W) (Below.heap_alloc W o b h)
theorem Mov.set {X : List Nat} {a w : World} {g o : Nat} {u : Value} (h : Mov X a w) (hg : a.heap.size ≤ g) : Mov X a (w.setCell ⟨g, o, none⟩ u) :=
  ⟨h.os, h.tape, h.output, by rw [World.size_setCell]; exact h.size, fun b hb hX => (Below.heap_setCell w _ _ _ (by show b ≠ g; omega)).trans (h.block b hb hX)⟩
theorem Mov.alloc {X : List Nat} {a w : World} (h : Mov X a w) (o : Obj) : Mov X a (w.alloc o) := h.trans (Mov.grown (World.grownBy_alloc _ _ _))
set_option maxHeartbeats 4000000 in
theorem last_yes (G cap m base : Nat) (x0 x1 x2 : UInt8) (w : World) (h : FileAt w G cap m x0 x1 x2) (hx : isFile x0 x1 x2 = true) (hL : Laid cfg0 w) (h0 : 0 < base) (hbw : base ≤ w.heap.size) (hG : base ≤ G) :
    Calls Tryz.prog 21 #[.slice (some ⟨G, 0, none⟩) (m + 40) cap] w fun e w' => e = .returned (.tuple #[.agg #[.int .i64 18, .int .i64 0, .int .i64 0, .int .i64 0], .int .i64 ((m : Int) + 18), .int .i64 0]) ∧ ObAt w' G (cap - m, m) winB ∧ Mov [G] w w' := by
  obtain ⟨wq, hwq⟩ : ∃ wq, w.alloc (.cells #[.int .i64 0, .int .i64 0, .int .i64 0, .int .i64 0] 44) = wq := ⟨_, rfl⟩
  have gq : w.grownBy wq none := hwq ▸ World.grownBy_alloc _ _ _
  have sq : wq.heap.size = w.heap.size + 1 := by rw [← hwq]; simp
  have hq : FileAt wq G cap m x0 x1 x2 := ⟨gq.cell h.c0 (by simp), gq.cell h.c1 (by simp), gq.cell h.c2 (by simp), h.win.same (gq.block G h.win.lt (by simp)), h.le, h.fit, h.few, h.more⟩
  have bq : BoxN wq 44 w.heap.size [.int .i64 0, .int .i64 0, .int .i64 0, .int .i64 0] := ⟨by rw [← hwq]; exact World.alloc_heap_new _ _⟩
  have Lq : Laid cfg0 wq := laid_to hL h0 ((grown_below gq).mono hbw)
  have fn := find_yes G cap m base x0 x1 x2 wq hq hx Lq h0 (by omega) hG
  have hG' : G < w.heap.size := h.win.lt
  have hfew := h.few
  have hmore := h.more
  have n1 : ¬ ((262144 : Int) < (m : Int) + 40) := by omega
  have n2 : ¬ ((m : Int) + 18 - 3 < 18) := by omega
  have n3 : ¬ ((m : Int) + 18 - 3 - 18 < 0) := by omega
  replace fn : Aside _ := fn
  replace gq : Aside _ := gq
  replace bq : Aside _ := bq
  replace Lq : Aside _ := Lq
  replace sq : Aside _ := sq
  replace h0 : Aside _ := h0
  replace hbw : Aside _ := hbw
  replace hG : Aside _ := hG
  replace hG' : Aside _ := hG'
  clear hq h hL
  go_enter Tryz.func21, Tryz.ntmps21
  go_wp2_with (first
    | (go_at_call 43; go_must (
        refine Calls.mono fn.out ?_; rintro e' w1 ⟨c, s, p, rfl, hc, hz, hw, m1⟩
        have z1 := sq.out
        have z2 := hG'.out
        have z3 := hbw.out
        have z4 := m1.size
        have b1 : Aside (BoxN w1 44 w.heap.size [.int .i64 0, .int .i64 0, .int .i64 0, .int .i64 0]) := bq.out.same (m1.block _ (by omega) (by simp; omega))
        have M1 : Aside (Mov [G] w w1) := (Mov.grown gq.out).trans m1
        have L1 : Laid cfg0 w1 := laid_to Lq.out h0.out (m1.below (by omega) (by simp; exact hG.out))
        have pd := postD_calls L1 h0.out (by omega) (by omega) hz
        have k1 : Aside (w.heap.size < c) := (by omega : w.heap.size < c)
        have k2 : Aside (w.heap.size < w1.heap.size) := (by omega : w.heap.size < w1.heap.size)
        replace pd : Aside _ := pd
        replace hw : Aside _ := hw
        clear bq gq fn hwq n1 L1 m1 hz Lq z1 z2 z3 z4 hc))
    | (go_at_call 44; go_must (
        refine Calls.mono pd.out ?_; rintro e' w2 ⟨rfl, m2⟩
        have z1 := k1.out
        have z2 := hG'.out
        have z3 := k2.out
        have w2n : Aside (ObAt w2 G (cap - m, m) winB) := ObAt.same hw.out (m2.block G (by omega) (by simp; omega))
        have M2 : Aside (Mov [G] w w2) := ⟨m2.os.trans M1.out.os, m2.tape.trans M1.out.tape, m2.output.trans M1.out.output, Nat.le_trans M1.out.size m2.size, fun k hk hX => (m2.block k (Nat.lt_of_lt_of_le hk M1.out.size) (by simp; omega)).trans (M1.out.block k hk hX)⟩
        have b2 := b1.out.same (m2.block _ (by omega) (by simp; omega))
        have hs2 : w.heap.size < w2.heap.size := Nat.lt_of_lt_of_le z3 m2.size
        have f0 := frozen_of_row w2 w.heap.size 0 _ 44 b2.row
        have f1 := frozen_of_row w2 w.heap.size 1 _ 44 b2.row
        have f2 := frozen_of_row w2 w.heap.size 2 _ 44 b2.row
        have f3 := frozen_of_row w2 w.heap.size 3 _ 44 b2.row
        have o0 := b2.cell 0
        have o1 := b2.cell 1
        have o2 := b2.cell 2
        have o3 := b2.cell 3
        simp only [List.getElem?_cons_succ, List.getElem?_cons_zero] at o0 o1 o2 o3
        clear z1 z2 z3 m2 b2 b1 k1 k2 hw M1 pd))
    | go_in)
  refine bodyPost_ret (v := .tuple #[.agg #[.int .i64 18, .int .i64 0, .int .i64 0, .int .i64 0], .int .i64 ((m : Int) + 18), .int .i64 0]) (by simp [results, Tryz.results21, go_sem, o0, o1, o2, o3, cell_alloc_lt, World.size_setCell, hs2]) rfl ⟨rfl, ObAt.same w2n.out ?_, ?_⟩
  · have z1 := hG'.out
    rw [Below.heap_alloc _ _ _ (by simp; omega), Below.heap_setCell _ _ _ _ (by show G ≠ w.heap.size; omega), Below.heap_setCell _ _ _ _ (by show G ≠ w.heap.size; omega), Below.heap_setCell _ _ _ _ (by show G ≠ w.heap.size; omega), Below.heap_setCell _ _ _ _ (by show G ≠ w.heap.size; omega)]
  · exact Mov.alloc (Mov.set (Mov.set (Mov.set (Mov.set M2.out (Nat.le_refl _)) (Nat.le_refl _)) (Nat.le_refl _)) (Nat.le_refl _)) _
end Go.Proofs.YtplmdlobbfcknaaGreatDoor
