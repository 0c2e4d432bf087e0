/- Values without what is not kept: plain facts. -/
import Derived.Test.YtnabebdceaoiiaaGreatDoorPrB
namespace Go.Proofs.YtnabebdceaoiiaaGreatDoor
open Go Go.Ev
set_option linter.unusedVariables false
set_option linter.unusedSimpArgs false
set_option maxHeartbeats 4000000

theorem xq : ∀ {l : List Ty} {d : Nat} {n : Int}, (chkTs d n l).2 = 0 → ∀ k ∈ l, ∃ n', (chkT d n' k).2 = 0
  | k :: r, d, n, h, x, hx => by
    rw [chkTs_cons] at h
    split at h
    · rename_i h1
      rw [h] at h1
      simp at h1
    · rename_i h1
      rcases List.mem_cons.1 hx with e | e
      · rw [e]; exact ⟨n, by simpa using h1⟩
      · exact xq h x e
theorem ah4 : ∀ (m : Nat) (t : Ty) (d : Nat) (n : Int), (chkT d n t).2 = 0 → goodT m t
  | 0, _, _, _, _ => trivial
  | m + 1, t, d, n, h => by
    rw [chkT_eq] at h
    split at h
    · cases h
    · split at h
      · rename_i h1
        simp only at h
        rw [h] at h1
        simp at h1
      · rename_i h1
        refine ⟨by simpa using h1, fun k hk => ?_⟩
        obtain ⟨n', h2⟩ := xq h k hk
        exact ah4 m k _ _ h2
theorem nf {t : Ty} (h : rightT t = true) (m : Nat) : goodT m t := by
  unfold rightT at h
  simp only [Bool.and_eq_true, beq_iff_eq] at h
  exact ah4 m t 1 0 h.2
theorem nc : ∀ (m : Nat) (x : Va), x.size ≤ m → sameV x x = true
  | 0, x, h => by have := x.size_pos; omega
  | m + 1, x, h => by
    have key : ∀ l : List Va, (∀ k ∈ l, k.size ≤ m) → gn l l = true := by
      intro l
      induction l with
      | nil => intro _; rw [sameVs_nil]
      | cons k r ih =>
        intro hk
        rw [sameVs_cons, nc m k (hk k (by simp)), ih fun y hy => hk y (by simp [hy])]
        rfl
    rw [sameV_eq, key x.kids fun k hk => by have := Va.size_kid hk; omega]
    simp
theorem xd : ∀ (m : Nat) (v : Va) (deep : Nat), fewV deep v < 1000 → na m v
  | 0, _, _, _ => trivial
  | m + 1, v, deep, h => by
    have high : ∀ (r : List Va) (n : Int), 1000 ≤ n → ¬ fewVs (deep + 1) n r < 1000 := by
      intro r
      induction r with
      | nil => intro n hn h; rw [fewVs_nil] at h; omega
      | cons y r ih2 =>
        intro n hn h
        rw [fewVs_cons] at h
        have hb := fewV_bd _ y (deep + 1) (Nat.le_refl _)
        split at h
        · omega
        · exact ih2 _ (by omega) h
    have key : ∀ (r : List Va) (n : Int), 0 ≤ n → fewVs (deep + 1) n r < 1000 → ∀ k ∈ r, fewV (deep + 1) k < 1000 := by
      intro r
      induction r with
      | nil => intro n _ _ k hk; cases hk
      | cons y r ih =>
        intro n h0 h k hk
        rw [fewVs_cons] at h
        have hb := fewV_bd _ y (deep + 1) (Nat.le_refl _)
        split at h
        · omega
        · rcases List.mem_cons.1 hk with rfl | hk
          · apply Classical.byContradiction
            intro hl
            exact high r _ (by omega) h
          · exact ih _ (by omega) h k hk
    rw [fewV_eq] at h
    split at h
    · omega
    · rename_i hc
      simp only [Bool.or_eq_true, decide_eq_true_eq, not_or] at hc
      exact ⟨by omega, by omega, fun k hk => xd m k (deep + 1) (key v.kids _ (by omega) h k hk)⟩

/-! columns as they are asked for -/
/-! what is right of a value stays -/
end Go.Proofs.YtnabebdceaoiiaaGreatDoor
