/- TailBegins: the tail, opened. Own work. -/
import Derived.Test.YtplmdlobbfcknaaGreatDoorTbF
namespace Go.Proofs.YtplmdlobbfcknaaGreatDoor
open Go Go.RowKit Go.Me
set_option linter.unusedVariables false
set_option linter.unusedSimpArgs false
set_option maxRecDepth 100000

theorem row_alloc2 (W : World) (o : Obj) (us : List Value) (e : TypeId) (n : Nat) (hn : n = W.heap.size + 1) : RowAt ((W.alloc o).alloc (.cells us.toArray e)) n us := by
  subst hn
  have := World.alloc_heap_new (W.alloc o) (.cells us.toArray e)
  rw [show (W.alloc o).heap.size = W.heap.size + 1 by simp] at this
  exact RowAt.of this
theorem fault_calls (s : ByteArray) (i g : Int) (w : World) : Calls Tryz.prog 22 #[.string s, .int .i64 i, .int .i64 g] w fun e w' => e = .returned (.iface 95 (.pointer (some ⟨w.heap.size, 0, none⟩))) ∧ w' = w.alloc (.cells #[.string s, .int .i64 i, .iface 84 (.int .i64 g)] 99) := by
  go_enter Tryz.func22, Tryz.ntmps22
  go_wp2
  go_ret
  exact ⟨rfl, rfl⟩
set_option maxHeartbeats 4000000 in
theorem open_not (G cap m : Nat) (x0 x1 x2 : UInt8) (w : World) (h : FileAt w G cap m x0 x1 x2) (hx : isFile x0 x1 x2 = false) :
    Calls Tryz.prog 8 #[.slice (some ⟨G, 0, none⟩) (m + 40) cap] w fun e w' => ∃ F, e = .returned (.tuple #[.agg #[.int .i64 0, .int .i64 0, .int .i64 0, .int .i64 0, .int .i64 0, .slice none 0 0, .int .i64 0, .slice none 0 0, .slice none 0 0, .int .i64 0, .int .i64 0, .int .i64 0, .slice none 0 0, .int .i64 0, .slice none 0 0, .int .i64 0], .iface 95 (.pointer (some ⟨F, 0, none⟩))]) ∧ w.heap.size ≤ F ∧ RowAt w' F (fltL [112, 111, 115, 116] 0 2) ∧ w.grownBy w' none := by
  obtain ⟨wq, hwq⟩ : ∃ wq, w.alloc (.cells #[.int .i64 0, .int .i64 0, .int .i64 0, .int .i64 0, .int .i64 0, .slice none 0 0, .int .i64 0, .slice none 0 0, .slice none 0 0, .int .i64 0, .int .i64 0, .int .i64 0, .slice none 0 0, .int .i64 0, .slice none 0 0, .int .i64 0] 50) = wq := ⟨_, rfl⟩
  have gq : w.grownBy wq none := hwq ▸ World.grownBy_alloc _ _ _
  have sq : wq.heap.size = w.heap.size + 1 := by rw [← hwq]; simp
  have hq : FileAt wq G cap m x0 x1 x2 := ⟨gq.cell h.c0 (by simp), gq.cell h.c1 (by simp), gq.cell h.c2 (by simp), h.win.same (gq.block G h.win.lt (by simp)), h.le, h.fit, h.few, h.more⟩
  have bq : BoxN wq 50 w.heap.size [.int .i64 0, .int .i64 0, .int .i64 0, .int .i64 0, .int .i64 0, .slice none 0 0, .int .i64 0, .slice none 0 0, .slice none 0 0, .int .i64 0, .int .i64 0, .int .i64 0, .slice none 0 0, .int .i64 0, .slice none 0 0, .int .i64 0] := ⟨by rw [← hwq]; exact World.alloc_heap_new _ _⟩
  have fn := last_not G cap m x0 x1 x2 wq hq hx
  replace fn : Aside _ := fn
  replace gq : Aside _ := gq
  replace bq : Aside _ := bq
  replace sq : Aside _ := sq
  clear hq h
  go_enter Tryz.func8, Tryz.ntmps8
  go_wp2_with (first
    | (go_at_call 21; go_must (
        refine Calls.mono fn.out ?_; rintro e' w1 ⟨rfl, g1⟩
        have b1 := bq.out.same (g1.block _ bq.out.lt (by simp))
        have G1 : Aside (w.grownBy w1 none) := grown_trans gq.out g1
        have hs1 : w.heap.size < w1.heap.size := b1.lt
        have f0 := frozen_of_row w1 w.heap.size 0 _ 50 b1.row
        have f1 := frozen_of_row w1 w.heap.size 1 _ 50 b1.row
        have f2 := frozen_of_row w1 w.heap.size 2 _ 50 b1.row
        have f3 := frozen_of_row w1 w.heap.size 3 _ 50 b1.row
        have f4 := frozen_of_row w1 w.heap.size 4 _ 50 b1.row
        have f5 := frozen_of_row w1 w.heap.size 5 _ 50 b1.row
        have f6 := frozen_of_row w1 w.heap.size 6 _ 50 b1.row
        have f7 := frozen_of_row w1 w.heap.size 7 _ 50 b1.row
        have f8 := frozen_of_row w1 w.heap.size 8 _ 50 b1.row
        have f9 := frozen_of_row w1 w.heap.size 9 _ 50 b1.row
        have f10 := frozen_of_row w1 w.heap.size 10 _ 50 b1.row
        have f11 := frozen_of_row w1 w.heap.size 11 _ 50 b1.row
        have f12 := frozen_of_row w1 w.heap.size 12 _ 50 b1.row
        have f13 := frozen_of_row w1 w.heap.size 13 _ 50 b1.row
        have f14 := frozen_of_row w1 w.heap.size 14 _ 50 b1.row
        have f15 := frozen_of_row w1 w.heap.size 15 _ 50 b1.row
        have o0 := b1.cell 0
        have o1 := b1.cell 1
        have o2 := b1.cell 2
        have o3 := b1.cell 3
        have o4 := b1.cell 4
        have o5 := b1.cell 5
        have o6 := b1.cell 6
        have o7 := b1.cell 7
        have o8 := b1.cell 8
        have o9 := b1.cell 9
        have o10 := b1.cell 10
        have o11 := b1.cell 11
        have o12 := b1.cell 12
        have o13 := b1.cell 13
        have o14 := b1.cell 14
        have o15 := b1.cell 15
        simp only [List.getElem?_cons_succ, List.getElem?_cons_zero] at o0 o1 o2 o3 o4 o5 o6 o7 o8 o9 o10 o11 o12 o13 o14 o15
        clear g1 bq gq fn hwq sq b1))
    | (go_at_call 22; go_must (
        refine Calls.mono (fault_calls _ _ _ _) ?_; rintro e' w2 ⟨rfl, rfl⟩))
    | go_in)
  refine bodyPost_ret (v := .tuple #[.agg #[.int .i64 0, .int .i64 0, .int .i64 0, .int .i64 0, .int .i64 0, .slice none 0 0, .int .i64 0, .slice none 0 0, .slice none 0 0, .int .i64 0, .int .i64 0, .int .i64 0, .slice none 0 0, .int .i64 0, .slice none 0 0, .int .i64 0], .iface 95 (.pointer (some ⟨w1.heap.size + 1, 0, none⟩))]) (by simp [results, Tryz.results8, go_sem, cell_alloc_lt, World.size_setCell, hs1, o0, o1, o2, o3, o4, o5, o6, o7, o8, o9, o10, o11, o12, o13, o14, o15]) rfl ⟨w1.heap.size + 1, rfl, by omega, ?_, ?_⟩
  · exact row_alloc2 _ _ (fltL [112, 111, 115, 116] 0 2) 99 _ (by simp only [World.size_setCell])
  · refine grown_alloc (grown_alloc ?_ _) _
    iterate 16 refine grown_set ?_ (Nat.le_refl _)
    exact G1.out
end Go.Proofs.YtplmdlobbfcknaaGreatDoor
