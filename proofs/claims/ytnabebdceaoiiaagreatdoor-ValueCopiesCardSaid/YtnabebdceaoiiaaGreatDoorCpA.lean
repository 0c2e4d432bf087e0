/- A value that is written over: what is known of it, and what is left. -/
import Derived.Test.YtnabebdceaoiiaaGreatDoorL9
import Derived.Test.YtnabebdceaoiiaaGreatDoorPrA
import Derived.OwnWalk
import Derived.Laws.AppendOwn
import Derived.Laws.OwnMore
namespace Go.Proofs.YtnabebdceaoiiaaGreatDoor
open Go Go.Ev Go.RowKit
set_option linter.unusedVariables false
set_option linter.unusedSimpArgs false

/-- bytes of one's own: how many -/
def BySh (W : World) (A : Nat → Prop) (v : Value) (n : Nat) : Prop :=
  ∃ ad c, v = .slice ad n c ∧ ∀ j, j < n → ∃ b o y, ad = some (ad3 b o) ∧ A b ∧ W.cell? (ad3 b (o + j)) = some (.int .u8 y) ∧ W.frozen? (ad3 b (o + j)) = false
/-- a value of one's own: how it is built -/
def VaSh (W : World) (A : Nat → Prop) : Nat → List Value → Va → Prop
  | 0, _, _ => True
  | m + 1, cs, v => ∃ c0 x c2 bv ka kc, cs = [c0, .int .i64 x, c2, bv, .slice ka v.kids.length kc] ∧ BySh W A bv v.b.length ∧
      ∀ (i : Nat) k, v.kids[i]? = some k → ∃ b o c0 c1 c2 c3 c4, ka = some (ad3 b o) ∧ A b ∧ W.cell? (ad3 b (o + i * 5)) = some c0 ∧ W.cell? (ad3 b (o + i * 5 + 1)) = some c1 ∧ W.cell? (ad3 b (o + i * 5 + 2)) = some c2 ∧ W.cell? (ad3 b (o + i * 5 + 3)) = some c3 ∧ W.cell? (ad3 b (o + i * 5 + 4)) = some c4 ∧
        W.frozen? (ad3 b (o + i * 5 + 1)) = false ∧ VaSh W A m [c0, c1, c2, c3, c4] k
/-- what may have become of a cell -/
def Like (u u' : Value) : Prop := u' = u ∨ (∃ y y', u = .int .u8 y ∧ u' = .int .u8 y') ∨ (∃ y y', u = .int .i64 y ∧ u' = .int .i64 y')
theorem Like.trans {u v w : Value} (h : Like u v) (k : Like v w) : Like u w := by
  rcases h with rfl | ⟨y, y', rfl, rfl⟩ | ⟨y, y', rfl, rfl⟩
  · exact k
  · rcases k with rfl | ⟨z, z', h, rfl⟩ | ⟨z, z', h, rfl⟩
    · exact .inr (.inl ⟨y, y', rfl, rfl⟩)
    · exact .inr (.inl ⟨y, z', rfl, rfl⟩)
    · cases h
  · rcases k with rfl | ⟨z, z', h, rfl⟩ | ⟨z, z', h, rfl⟩
    · exact .inr (.inr ⟨y, y', rfl, rfl⟩)
    · cases h
    · exact .inr (.inr ⟨y, z', rfl, rfl⟩)
theorem Like.slice {u : Value} {a : Option Addr} {n c : Nat} (h : Like (.slice a n c) u) : u = .slice a n c := by
  rcases h with rfl | ⟨y, y', h, _⟩ | ⟨y, y', h, _⟩
  · rfl
  · cases h
  · cases h
theorem Like.i64 {u : Value} {y : Int} (h : Like (.int .i64 y) u) : ∃ z, u = .int .i64 z := by
  rcases h with rfl | ⟨_, _, h, _⟩ | ⟨_, z, _, rfl⟩
  · exact ⟨y, rfl⟩
  · cases h
  · exact ⟨z, rfl⟩
theorem Like.u8 {u : Value} {y : Int} (h : Like (.int .u8 y) u) : ∃ z, u = .int .u8 z := by
  rcases h with rfl | ⟨_, z, _, rfl⟩ | ⟨_, _, h, _⟩
  · exact ⟨y, rfl⟩
  · exact ⟨z, rfl⟩
  · cases h
/-- from block lo on numbers may have been turned, nothing else -/
structure Spo (lo : Nat) (W W' : World) : Prop where
  os : W'.os = W.os
  tape : W'.tape = W.tape
  output : W'.output = W.output
  size : W'.heap.size = W.heap.size
  block : ∀ k, k < lo → W'.heap[k]? = W.heap[k]?
  cell : ∀ (b o : Nat) u, W.cell? (ad3 b o) = some u → ∃ u', W'.cell? (ad3 b o) = some u' ∧ Like u u'
  froz : ∀ (b o : Nat), (W.cell? (ad3 b o)).isSome → W'.frozen? (ad3 b o) = W.frozen? (ad3 b o)
theorem Spo.refl (lo : Nat) (W : World) : Spo lo W W := ⟨rfl, rfl, rfl, rfl, fun _ _ => rfl, fun _ _ u h => ⟨u, h, .inl rfl⟩, fun _ _ _ => rfl⟩
theorem Spo.trans {lo : Nat} {W W' W'' : World} (h : Spo lo W W') (k : Spo lo W' W'') : Spo lo W W'' :=
  ⟨k.os.trans h.os, k.tape.trans h.tape, k.output.trans h.output, k.size.trans h.size, fun b hb => (k.block b hb).trans (h.block b hb), fun b o u hu => by
    obtain ⟨u1, h1, l1⟩ := h.cell b o u hu
    obtain ⟨u2, h2, l2⟩ := k.cell b o u1 h1
    exact ⟨u2, h2, l1.trans l2⟩, fun b o hs => by
    obtain ⟨u, hu⟩ := Option.isSome_iff_exists.1 hs
    obtain ⟨u1, h1, _⟩ := h.cell b o u hu
    rw [k.froz b o (by rw [h1]; rfl), h.froz b o hs]⟩
theorem Spo.drew (lo : Nat) (W : World) : Spo lo W W.drew := ⟨rfl, rfl, rfl, rfl, fun _ _ => rfl, fun _ _ u h => ⟨u, h, .inl rfl⟩, fun _ _ _ => rfl⟩
theorem Spo.set {lo g o : Nat} {W : World} {u u' : Value} (h : W.cell? (ad3 g o) = some u) (hl : Like u u') (hg : lo ≤ g) : Spo lo W (W.setCell (ad3 g o) u') := by
  refine ⟨rfl, rfl, rfl, World.size_setCell _ _ _, fun k hk => bz W _ _ (by show k ≠ g; omega), fun b p v hv => ?_, fun b p hs => ?_⟩
  · by_cases e : ad3 g o = ad3 b p
    · cases e
      rw [h] at hv
      cases hv
      exact ⟨u', World.cell?_setCell_same _ _ _ h, hl⟩
    · exact ⟨v, by rw [World.cell?_setCell_other _ _ _ _ e]; exact hv, .inl rfl⟩
  · exact World.frozen?_setCells g [u'] o W _
theorem BySh.spo {lo : Nat} {W W' : World} {A : Nat → Prop} {v : Value} {n : Nat} (h : BySh W A v n) (k : Spo lo W W') : BySh W' A v n := by
  obtain ⟨ad, c, rfl, h⟩ := h
  refine ⟨ad, c, rfl, fun j hj => ?_⟩
  obtain ⟨b, o, y, h1, h2, h3, h4⟩ := h j hj
  obtain ⟨u, h5, h6⟩ := k.cell b _ _ h3
  obtain ⟨z, rfl⟩ := h6.u8
  exact ⟨b, o, z, h1, h2, h5, by rw [k.froz b _ (by rw [h3]; rfl)]; exact h4⟩
theorem VaSh.spo {lo : Nat} {W W' : World} {A : Nat → Prop} (k : Spo lo W W') : ∀ (m : Nat) {cs cs' : List Value} {v : Va}, VaSh W A m cs v → cs'.length = cs.length → (∀ (i : Nat) u u', cs[i]? = some u → cs'[i]? = some u' → Like u u') → VaSh W' A m cs' v
  | 0, _, _, _, _, _, _ => trivial
  | m + 1, cs, cs', v, h, hl, hc => by
    obtain ⟨c0, x, c2, bv, ka, kc, rfl, hb, hk⟩ := h
    match cs', hl with
    | [d0, d1, d2, d3, d4], _ =>
      obtain ⟨ba, bc, rfl, hb2⟩ := id hb
      obtain ⟨z, rfl⟩ := (hc 1 _ _ rfl rfl).i64
      obtain rfl := (hc 3 _ _ rfl rfl).slice
      obtain rfl := (hc 4 _ _ rfl rfl).slice
      refine ⟨d0, z, d2, _, ka, kc, rfl, hb.spo k, fun i y hy => ?_⟩
      obtain ⟨b, o, e0, e1, e2, e3, e4, h1, h2, m0, m1, m2, m3, m4, hf, hs⟩ := hk i y hy
      obtain ⟨f0, n0, l0⟩ := k.cell b _ _ m0
      obtain ⟨f1, n1, l1⟩ := k.cell b _ _ m1
      obtain ⟨f2, n2, l2⟩ := k.cell b _ _ m2
      obtain ⟨f3, n3, l3⟩ := k.cell b _ _ m3
      obtain ⟨f4, n4, l4⟩ := k.cell b _ _ m4
      refine ⟨b, o, f0, f1, f2, f3, f4, h1, h2, n0, n1, n2, n3, n4, by rw [k.froz b _ (by rw [m1]; rfl)]; exact hf, VaSh.spo k m hs rfl fun i u u' hu hu' => ?_⟩
      match i, hu, hu' with
      | 0, hu, hu' => cases hu; cases hu'; exact l0
      | 1, hu, hu' => cases hu; cases hu'; exact l1
      | 2, hu, hu' => cases hu; cases hu'; exact l2
      | 3, hu, hu' => cases hu; cases hu'; exact l3
      | 4, hu, hu' => cases hu; cases hu'; exact l4
      | i + 5, hu, _ => simp at hu
/-- memory that grows, but for a block apart -/
theorem BySh.grown {W W' : World} {row : Option Nat} {A B : Nat → Prop} {v : Value} {n : Nat} (h : BySh W A v n) (hg : W.grownBy W' row) (hA : ∀ b, A b → b < W.heap.size → some b ≠ row ∧ B b) : BySh W' B v n := by
  obtain ⟨ad, c, rfl, h⟩ := h
  refine ⟨ad, c, rfl, fun j hj => ?_⟩
  obtain ⟨b, o, y, h1, h2, h3, h4⟩ := h j hj
  obtain ⟨g1, g2⟩ := hA b h2 (World.block_lt_of_cell? _ _ h3)
  have e := hg.block b (World.block_lt_of_cell? _ _ h3) g1
  exact ⟨b, o, y, h1, g2, by rw [ae e]; exact h3, by rw [aw e]; exact h4⟩
theorem VaSh.grown {W W' : World} {row : Option Nat} {A B : Nat → Prop} (hg : W.grownBy W' row) (hA : ∀ b, A b → b < W.heap.size → some b ≠ row ∧ B b) : ∀ (m : Nat) {cs : List Value} {v : Va}, VaSh W A m cs v → VaSh W' B m cs v
  | 0, _, _, _ => trivial
  | m + 1, cs, v, h => by
    obtain ⟨c0, x, c2, bv, ka, kc, rfl, hb, hk⟩ := h
    refine ⟨c0, x, c2, bv, ka, kc, rfl, hb.grown hg hA, fun i y hy => ?_⟩
    obtain ⟨b, o, e0, e1, e2, e3, e4, h1, h2, m0, m1, m2, m3, m4, hf, hs⟩ := hk i y hy
    obtain ⟨g1, g2⟩ := hA b h2 (World.block_lt_of_cell? _ _ m0)
    have e := hg.block b (World.block_lt_of_cell? _ _ m0) g1
    exact ⟨b, o, e0, e1, e2, e3, e4, h1, g2, by rw [ae e]; exact m0, by rw [ae e]; exact m1, by rw [ae e]; exact m2, by rw [ae e]; exact m3, by rw [ae e]; exact m4, by rw [aw e]; exact hf, VaSh.grown hg hA m hs⟩
end Go.Proofs.YtnabebdceaoiiaaGreatDoor
