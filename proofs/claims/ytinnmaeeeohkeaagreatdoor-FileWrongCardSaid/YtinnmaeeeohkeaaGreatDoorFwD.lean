/- FileWrong: rows of one number each, and what file.checkRows tells of them. Own work. -/
import Derived.Test.YtinnmaeeeohkeaaGreatDoorFwC
import Derived.Test.YtinnmaeeeohkeaaGreatDoorMeX6
namespace Go.Proofs.YtinnmaeeeohkeaaGreatDoor
open Go Go.RowKit
set_option linter.unusedVariables false
set_option linter.unusedSimpArgs false
set_option maxRecDepth 100000

/-- nothing turned but, it may be, the blocks X -/
structure Mov (X : List Nat) (w w' : World) : Prop where
  os : w'.os = w.os
  tape : w'.tape = w.tape
  output : w'.output = w.output
  size : w.heap.size ≤ w'.heap.size
  block : ∀ k, k < w.heap.size → k ∉ X → w'.heap[k]? = w.heap[k]?
theorem Mov.refl (X : List Nat) (w : World) : Mov X w w := ⟨rfl, rfl, rfl, Nat.le_refl _, fun _ _ _ => rfl⟩
theorem Mov.trans {X : List Nat} {a b c : World} (h : Mov X a b) (k : Mov X b c) : Mov X a c :=
  ⟨k.os.trans h.os, k.tape.trans h.tape, k.output.trans h.output, Nat.le_trans h.size k.size, fun i hi hX => (k.block i (Nat.lt_of_lt_of_le hi h.size) hX).trans (h.block i hi hX)⟩
theorem Mov.grown {X : List Nat} {a b : World} (h : a.grownBy b none) : Mov X a b := ⟨h.os, h.tape, h.output, h.size, fun k hk _ => h.block k hk (by simp)⟩
theorem Mov.below {X : List Nat} {a b : World} (h : Mov X a b) {B : Nat} (hB : B ≤ a.heap.size) (hX : ∀ x ∈ X, B ≤ x) : Below B a b :=
  ⟨h.os, h.tape, h.output, h.size, fun k hk => h.block k (by omega) fun hm => by have := hX k hm; omega⟩
theorem Mov.cell {X : List Nat} {a b : World} (h : Mov X a b) {c o : Nat} {v : Value} (hc : a.cell? ⟨c, o, none⟩ = some v) (hX : c ∉ X) : b.cell? ⟨c, o, none⟩ = some v := by
  rw [World.cell?_of_block (w := a) (h.block c (World.block_lt_of_cell? _ _ hc) hX)]; exact hc
theorem Mov.kid {X : List Nat} {a b : World} (h : Mov X a b) {K : Nat} {x : Int} (k : KidAt a K x) (hX : K ∉ X) : KidAt b K x := ⟨h.cell k.c0 hX, h.cell k.c1 hX, h.cell k.c2 hX, h.cell k.c3 hX, h.cell k.c4 hX⟩
theorem Mov.box6 {X : List Nat} {a b : World} (h : Mov X a b) {t g : Nat} {cs : List Value} (k : Box6 a t g cs) (hX : g ∉ X) : Box6 b t g cs := by
  refine ⟨?_⟩
  obtain ⟨h1, h2⟩ := k.row
  refine ⟨h1, ?_⟩
  rcases h2 with h2 | ⟨g', cap, cur, e, hb, hg, rest⟩
  · exact .inl h2
  · cases e
    exact .inr ⟨g, 1, cur, rfl, hb, (h.block g (Array.getElem?_eq_some_iff.1 hg).1 hX).trans hg, rest⟩

/-- the rows, as they lie -/
structure RowsAt (X : List Nat) (w : World) (rs : Value) (xs : List Int) : Prop where
  row : ∃ cs, w.ownsRow 0 32 5 rs xs.length cs ∧ ∀ (i : Nat) x, xs[i]? = some x → ∃ K, K ∉ X ∧ cs[i * 5]? = some (.bool false) ∧ cs[i * 5 + 1]? = some (.int .i64 0) ∧ cs[i * 5 + 2]? = some (.int .i64 0) ∧ cs[i * 5 + 3]? = some (.slice none 0 0) ∧ cs[i * 5 + 4]? = some (.slice (some ⟨K, 0, none⟩) 1 1) ∧ KidAt w K x
  own : ∀ R, rs.ownBlock = some R → R ∉ X
theorem RowsAt.mov {X : List Nat} {w w' : World} {rs : Value} {xs : List Int} (h : RowsAt X w rs xs) (m : Mov X w w') : RowsAt X w' rs xs := by
  obtain ⟨cs, ⟨h1, h2⟩, h3⟩ := h.row
  refine ⟨⟨cs, ⟨h1, ?_⟩, fun i x hx => ?_⟩, h.own⟩
  · rcases h2 with h2 | ⟨g, cap, cur, e, hb, hg, rest⟩
    · exact .inl h2
    · exact .inr ⟨g, cap, cur, e, hb, (m.block g (Array.getElem?_eq_some_iff.1 hg).1 (h.own g (by rw [e]; rfl))).trans hg, rest⟩
  · obtain ⟨K, hK, g0, g1, g2, g3, g4, hk⟩ := h3 i x hx
    exact ⟨K, hK, g0, g1, g2, g3, g4, m.kid hk hK⟩

set_option maxHeartbeats 1000000 in
theorem checkRows_calls (n : Value) (T : Nat) (X : List Nat) (R cap : Nat) (xs : List Int) (at_ : Nat) (v : Int) (w : World) (ht : TyAt w T) (hr : RowsAt X w (.slice (some ⟨R, 0, none⟩) xs.length cap) xs) (hl : xs.length ≤ 50) (hv : xs[at_]? = some v) (hbad : fits v = 1)
    (hgood : ∀ (i : Nat) x, i < at_ → xs[i]? = some x → fits x = 0) :
    Calls Tryz.prog 48 #[tyS n (.slice (some ⟨T, 0, none⟩) 1 1), .slice (some ⟨R, 0, none⟩) xs.length cap] w fun e w' => ∃ u, e = .returned u ∧ w.grownBy w' none ∧ FaultIs w w' [114, 111, 119] at_ 1 u := by
  have hlt : at_ < xs.length := (List.getElem?_eq_some_iff.1 hv).1
  obtain ⟨cs, hrow, hkids⟩ := hr.row
  obtain ⟨len, hlen⟩ : ∃ len, xs.length = len := ⟨_, rfl⟩
  rw [hlen] at hrow hlt hl ⊢
  have b1 := (Box6.new w (t := 28) (.int .i64 12) n (.slice (some ⟨T, 0, none⟩) 1 1) (.int .i64 0) (.int .i64 0) (.int .i64 0))
  have g1 : w.grownBy (w.alloc (.cells #[.int .i64 12, n, .slice (some ⟨T, 0, none⟩) 1 1, .int .i64 0, .int .i64 0, .int .i64 0] 28)) none := World.grownBy_alloc _ _ _
  have r1 := hrow.kept g1 (by simp [Value.ownBlock])
  replace b1 : Aside _ := b1
  replace g1 : Aside _ := g1
  replace r1 : Aside _ := r1
  replace hkids : Aside _ := hkids
  replace ht : Aside _ := ht
  replace hgood : Aside _ := hgood
  replace hbad : Aside _ := hbad
  replace hlen : Aside _ := hlen
  replace hv : Aside _ := hv
  clear hr hrow
  go_enter Tryz.func48, Tryz.ntmps48
  go_wp2
  go_loopw [16] (fun i wl => ∃ k : Nat, k ≤ at_ ∧ i = .int .i64 k ∧ Aside ((w.alloc (.cells #[.int .i64 12, n, .slice (some ⟨T, 0, none⟩) 1 1, .int .i64 0, .int .i64 0, .int .i64 0] 28)).grownBy wl none)) (fun i _ => at_ + 1 - (intOf i).toNat)
  case atStart => exact ⟨0, Nat.zero_le _, rfl, grown_refl _ _⟩
  case round =>
    obtain ⟨k, hk, rfl, H⟩ := hrel
    obtain ⟨x, hx⟩ : ∃ x, xs[k]? = some x := ⟨_, List.getElem?_eq_getElem (by rw [hlen.out]; omega)⟩
    obtain ⟨K, -, e0, e1, e2, e3, e4, hkid⟩ := hkids.out k x hx
    have hkl : k < len := by omega
    have RR := World.ownsRow.kept r1.out H.out (by simp [Value.ownBlock])
    have cell : ∀ j u, j < 5 → cs[k * 5 + j]? = some u → wr.cell? ⟨R, k * 5 + j, none⟩ = some u := fun j u hj hu => by rw [World.ownsRow.cellAt RR (k * 5 + j) (by omega)]; exact hu
    have r0 := cell 0 _ (by omega) e0
    have r1' := cell 1 _ (by omega) e1
    have r2 := cell 2 _ (by omega) e2
    have r3 := cell 3 _ (by omega) e3
    have r4 := cell 4 _ (by omega) e4
    rw [Nat.add_zero] at r0
    have gw := grown_trans g1.out H.out
    have gA := grown_alloc gw (.cells #[.bool false, .int .i64 0, .int .i64 0, .slice none 0 0, .slice (some ⟨K, 0, none⟩) 1 1] 32)
    have BA := b1.out.kept (grown_alloc H.out (.cells #[.bool false, .int .i64 0, .int .i64 0, .slice none 0 0, .slice (some ⟨K, 0, none⟩) 1 1] 32)) (by simp)
    have V := Box5.new wr (.bool false) (.int .i64 0) (.int .i64 0) (.slice none 0 0) (.slice (some ⟨K, 0, none⟩) 1 1)
    have ck := checkR n T K x _ (ht.out.grown gA) (hkid.grown gA)
    obtain ⟨p0, p1, p2, p3, p4, p5⟩ := BA.all
    have hfx : k < at_ ∧ fits x = 0 ∨ k = at_ ∧ fits x = 1 := by
      by_cases h : k < at_
      · exact .inl ⟨h, hgood.out k x h hx⟩
      · have : k = at_ := by omega
        subst this
        have e : some x = some v := hx.symm.trans hv.out
        cases e
        exact .inr ⟨rfl, hbad.out⟩
    replace hfx : Aside _ := hfx
    replace gA : Aside _ := gA
    replace V : Aside _ := V
    replace ck : Aside _ := ck
    replace H : Aside _ := H
    clear hkid e0 e1 e2 e3 e4 cell RR gw BA hx
    go_wp2_with (first
      | (go_at_call 95; go_must (
          refine Calls.mono ck.out ?_; rintro e' w5 ⟨rfl, h5⟩
          have g5 : Aside (w.grownBy w5 none) := grown_trans gA.out h5
          have H5 : Aside ((w.alloc (.cells #[.int .i64 12, n, .slice (some ⟨T, 0, none⟩) 1 1, .int .i64 0, .int .i64 0, .int .i64 0] 28)).grownBy w5 none) := grown_trans (grown_alloc H.out _) h5
          have VB := V.out.kept h5 (by simp)
          clear p0 p1 p2 p3 p4 p5 r0 r1' r2 r3 r4
          obtain ⟨q0, q1, q2, q3, q4⟩ := VB.all
          clear h5 gA V ck VB H
          rcases hfx.out with ⟨hka, hf⟩ | ⟨hka, hf⟩ <;> rw [hf]))
      | go_in)
    · exact ⟨⟨k + 1, by omega, by go_num, H5⟩, by simp [intOf]; omega⟩
    · go_ret
      refine ⟨_, rfl, grown_alloc g5.out _, ?_⟩
      unfold FaultIs
      rw [if_neg (by decide)]
      exact ⟨w5.heap.size, by first | rfl | simp, g5.out.size, ⟨World.alloc_heap_new _ _⟩⟩
end Go.Proofs.YtinnmaeeeohkeaaGreatDoor
