/- FileWrong: the rows are built. Own work. -/
import Derived.Test.YtinnmaeeeohkeaaGreatDoorFwI
namespace Go.Proofs.YtinnmaeeeohkeaaGreatDoor
open Go Go.RowKit Go.Me
set_option linter.unusedVariables false
set_option linter.unusedSimpArgs false
set_option maxRecDepth 100000

theorem cells_new (w : World) (xs : List Value) (t : TypeId) (n : Nat) (hn : w.heap.size = n) : ∀ j u, xs[j]? = some u → (w.alloc (.cells xs.toArray t)).cell? ((⟨n, 0, none⟩ : Addr).add j) = some u := by
  subst hn
  intro j u hj
  cases j with
  | zero => simpa [Addr.add] using hj
  | succ j => simpa [Addr.add] using hj
/-- the row's number -/
def numAt (at_ : Int) (v : Int) (i : Nat) : Int := if at_ ≤ i then v else i
def nums (at_ v : Int) (k : Nat) : List Int := (List.range k).map (numAt at_ v)
theorem nums_len (at_ v : Int) (k : Nat) : (nums at_ v k).length = k := by simp [nums]
theorem nums_get {at_ v : Int} {k i : Nat} (h : i < k) : (nums at_ v k)[i]? = some (numAt at_ v i) := by simp [nums, h]
/-- so many rows are there -/
structure Lp (w2 wl : World) (rs : Value) (at_ v : Int) (k : Nat) : Prop where
  row : ∃ cs, wl.ownsRow w2.heap.size 32 5 rs k cs ∧ ∀ (i : Nat), i < k → ∃ K, w2.heap.size ≤ K ∧ some K ≠ rs.ownBlock ∧ cs[i * 5]? = some (.bool false) ∧ cs[i * 5 + 1]? = some (.int .i64 0) ∧ cs[i * 5 + 2]? = some (.int .i64 0) ∧ cs[i * 5 + 3]? = some (.slice none 0 0) ∧ cs[i * 5 + 4]? = some (.slice (some ⟨K, 0, none⟩) 1 1) ∧ KidAt wl K (numAt at_ v i)
  gr : w2.grownBy wl none
theorem KidAt.kept {w w' : World} {K : Nat} {x : Int} {r : Option Nat} (h : KidAt w K x) (g : w.grownBy w' r) (hr : some K ≠ r) : KidAt w' K x :=
  ⟨g.cell h.c0 hr, g.cell h.c1 hr, g.cell h.c2 hr, g.cell h.c3 hr, g.cell h.c4 hr⟩
theorem KidAt.new (w : World) (x : Int) : KidAt (w.alloc (.cells #[.bool false, .int .i64 x, .int .i64 0, .slice none 0 0, .slice none 0 0] 32)) w.heap.size x := by
  obtain ⟨h0, h1, h2, h3, h4⟩ := (Box5.new w (.bool false) (.int .i64 x) (.int .i64 0) (.slice none 0 0) (.slice none 0 0)).all
  exact ⟨h0, h1, h2, h3, h4⟩
theorem Lp.step {w2 wl w4 : World} {rs rs' : Value} {at_ v : Int} {k : Nat} {cs : List Value} (L : Lp w2 wl rs at_ v k) {x : Int} (hx : x = numAt at_ v k) {o : Obj}
    (h0 : wl.ownsRow w2.heap.size 32 5 rs k cs) (hsh : ∀ (i : Nat), i < k → ∃ K, w2.heap.size ≤ K ∧ some K ≠ rs.ownBlock ∧ cs[i * 5]? = some (.bool false) ∧ cs[i * 5 + 1]? = some (.int .i64 0) ∧ cs[i * 5 + 2]? = some (.int .i64 0) ∧ cs[i * 5 + 3]? = some (.slice none 0 0) ∧ cs[i * 5 + 4]? = some (.slice (some ⟨K, 0, none⟩) 1 1) ∧ KidAt wl K (numAt at_ v i))
    (hown : w4.ownsRow w2.heap.size 32 5 rs' (k + 1) (cs ++ [.bool false, .int .i64 0, .int .i64 0, .slice none 0 0, .slice (some ⟨wl.heap.size, 0, none⟩) 1 1]))
    (hgrow : ((wl.alloc (.cells #[.bool false, .int .i64 x, .int .i64 0, .slice none 0 0, .slice none 0 0] 32)).alloc o).grownBy w4 rs.ownBlock)
    (hloc : rs'.ownBlock = rs.ownBlock ∨ rs'.ownBlock = some ((wl.alloc (.cells #[.bool false, .int .i64 x, .int .i64 0, .slice none 0 0, .slice none 0 0] 32)).alloc o).heap.size) : Lp w2 w4 rs' at_ v (k + 1) := by
  have hl := fun q (h : rs.ownBlock = some q) => h0.lt q h
  have hcl : cs.length = k * 5 := h0.1
  have hz : ((wl.alloc (.cells #[.bool false, .int .i64 x, .int .i64 0, .slice none 0 0, .slice none 0 0] 32)).alloc o).heap.size = wl.heap.size + 2 := by simp
  rw [hz] at hloc
  have gA : wl.grownBy w4 rs.ownBlock := by
    have g := grown_alloc (World.grownBy_alloc wl (.cells #[.bool false, .int .i64 x, .int .i64 0, .slice none 0 0, .slice none 0 0] 32) none) o
    exact ⟨hgrow.os.trans g.os, hgrow.tape.trans g.tape, hgrow.output.trans g.output, Nat.le_trans g.size hgrow.size, fun i hi hr => (hgrow.block i (Nat.lt_of_lt_of_le hi g.size) hr).trans (g.block i hi (by simp))⟩
  refine ⟨⟨_, hown, fun i hi => ?_⟩, ⟨hgrow.os.trans L.gr.os, hgrow.tape.trans L.gr.tape, hgrow.output.trans L.gr.output, Nat.le_trans L.gr.size gA.size, fun b hb _ => ?_⟩⟩
  · by_cases hik : i < k
    · obtain ⟨K, q0, q1, e0, e1, e2, e3, e4, hk⟩ := hsh i hik
      have hKl : K < wl.heap.size := World.block_lt_of_cell? _ _ hk.c0
      refine ⟨K, q0, ?_, ?_, ?_, ?_, ?_, ?_, hk.kept gA q1⟩
      · rcases hloc with e | e
        · rw [e]; exact q1
        · rw [e]; intro h; have := Option.some.inj h; omega
      all_goals (rw [List.getElem?_append_left (by omega)]; assumption)
    · have : i = k := by omega
      subst this
      refine ⟨wl.heap.size, L.gr.size, ?_, ?_, ?_, ?_, ?_, ?_, ?_⟩
      · rcases hloc with e | e
        · rw [e]; intro h; have := (hl _ h.symm).2; omega
        · rw [e]; intro h; have := Option.some.inj h; omega
      · rw [List.getElem?_append_right (by omega), show i * 5 - cs.length = 0 by omega]; rfl
      · rw [List.getElem?_append_right (by omega), show i * 5 + 1 - cs.length = 1 by omega]; rfl
      · rw [List.getElem?_append_right (by omega), show i * 5 + 2 - cs.length = 2 by omega]; rfl
      · rw [List.getElem?_append_right (by omega), show i * 5 + 3 - cs.length = 3 by omega]; rfl
      · rw [List.getElem?_append_right (by omega), show i * 5 + 4 - cs.length = 4 by omega]; rfl
      · rw [← hx]
        have k0 := KidAt.new wl x
        have k1 := k0.grown (World.grownBy_alloc _ o none)
        exact k1.kept hgrow fun h => by have := (hl _ h.symm).2; omega
  · rw [gA.block b (Nat.lt_of_lt_of_le hb L.gr.size) (fun h => by have := (hl b h.symm).1; omega)]
    exact L.gr.block b hb (by simp)
theorem Lp.rows {w2 wl : World} {rs : Value} {at_ v : Int} {k : Nat} (L : Lp w2 wl rs at_ v k) {X : List Nat} (hX : ∀ x ∈ X, x < w2.heap.size) : RowsAt X wl rs (nums at_ v k) := by
  obtain ⟨cs, h0, hsh⟩ := L.row
  refine ⟨⟨cs, ?_, fun i x hx => ?_⟩, fun R hR hm => ?_⟩
  · rw [nums_len]
    obtain ⟨h1, h2⟩ := h0
    refine ⟨h1, ?_⟩
    rcases h2 with h2 | ⟨g, cap, cur, e, hb, rest⟩
    · exact .inl h2
    · exact .inr ⟨g, cap, cur, e, Nat.zero_le _, rest⟩
  · have hi : i < k := by have := (List.getElem?_eq_some_iff.1 hx).1; rwa [nums_len] at this
    rw [nums_get hi] at hx
    cases hx
    obtain ⟨K, q0, q1, e0, e1, e2, e3, e4, hk⟩ := hsh i hi
    exact ⟨K, fun hm => by have := hX K hm; omega, e0, e1, e2, e3, e4, hk⟩
  · have := (h0.lt R hR).1
    have := hX R hm
    omega
end Go.Proofs.YtinnmaeeeohkeaaGreatDoor
