/- What is walked by hand: pieces of a slice. Own work. -/
import Derived.Test.YtkdiccgfbfbjlaaGreatWlk
import Derived.Deep.RegionHeld3
namespace Go.Proofs.YtkdiccgfbfbjlaaGreat
open Go Go.Me Go.RowKit
set_option linter.unusedVariables false
set_option linter.unusedSimpArgs false
attribute [local go_sem] Oper.semAt_some
set_option maxRecDepth 100000

set_option maxHeartbeats 2000000 in
theorem chunk117 : ChunkWalk Tryz.prog 117 1 := by
  intro l B o B' o' n m J Jx W hm hnm hJ hJx hR h0
  have hlt : ∀ {k : Nat}, k < (n + m - 1) / m ↔ k * m < n := fun {k} => lt_pieces hm
  generalize (n + m - 1) / m = len at *
  refine callsIn_of_wp Tryz.func117 rfl trivial ?_ rfl
  simp only [Tryz.ntmps117, List.size_toArray, List.length_cons, List.length_nil, Nat.reduceAdd, Nat.reduceSub, Array.replicate_succ, Array.replicate_zero, List.push_toArray, List.append_toArray, List.nil_append, List.cons_append]
  gi_wp2
  gi_loopw [4] (fun i wr => ∃ k : Nat, k ≤ len ∧ i = .int .i64 ((k * m : Nat) : Int) ∧ J k wr) (fun i _ => n + m - (intOf i).toNat)
  case atStart => exact ⟨0, Nat.zero_le _, by simp, h0⟩
  case round =>
    obtain ⟨k, hk, rfl, hJk⟩ := hrel
    obtain ⟨ad, cap, c1', hcap, c2', hy⟩ := hR k wr.drew hk (hJ k wr wr.drew hJk ⟨rfl, rfl, rfl, Nat.le_refl _, fun _ _ _ => rfl⟩)
    have c1 : wr.cell? ⟨B, o, none⟩ = some (.slice ad n cap) := c1'
    have c2 : wr.cell? ⟨B', o', none⟩ = some (.int .i64 (m : Int)) := c2'
    obtain ⟨i0, hi0⟩ : ∃ i0, i0 = k * m := ⟨_, rfl⟩
    rw [← hi0] at hy ⊢
    have A0 : Aside (i0 = k * m) := hi0
    by_cases hkm : i0 < n
    · obtain ⟨c, p, rfl, fn, tmps, assign, body, hyr, hRd⟩ := hy hkm
      obtain ⟨e0, he0⟩ : ∃ e0, e0 = min m (n - i0) := ⟨_, rfl⟩
      have hE : (if n - i0 < m then ((n - i0 : Nat) : Int) else (m : Int)) = (e0 : Int) := by split <;> omega
      rw [← he0, Nat.mul_one] at hyr
      have HR : Aside (RoundIn Fence.wide 0 Tryz.prog l fn tmps assign body wr.drew fun e Y => e = .returned (.bool true) ∧ J (k + 1) Y ∨ e = .returned (.bool false) ∧ Jx Y) := hRd
      have hle : k < len := hlt.2 (by omega)
      have b1 : i0 + e0 ≤ n := by omega
      have b2 : 0 < e0 := by omega
      have b3 : e0 ≤ m := by omega
      have HA : Aside (∀ X, J (k + 1) X → X.cell? ⟨B', o', none⟩ = some (.int .i64 (m : Int))) := fun X hX => (hR (k + 1) X hle hX).choose_spec.choose_spec.2.2.1
      have z1 : (0 : Int) ≤ (i0 : Int) := by omega
      have z2 : (i0 : Int) ≤ (n : Int) := by omega
      have z3 : ¬ cap = i0 := by omega
      have z4 : i0 ≤ n := by omega
      clear hRd hy hR hJ hJx c1' c2' hlt hi0
      gi_wp2
      refine wpIn_wide.2 ?_
      go_region_held3 (fun w' => w'.cell? ⟨B, o, none⟩ = some (.slice (some ⟨c, p, none⟩) n cap) ∧ w'.cell? ⟨B', o', none⟩ = some (.int .i64 (m : Int))) (go_keep) (fail)
      all_goals (try (exfalso; omega))
      rw [← he0]
      clear hE he0
      gi_wp2
      refine ⟨rfl, HR.out.mono ?_⟩
      clear hyr HR c1 c2
      rintro e W3 (⟨rfl, hJ3⟩ | ⟨rfl, hJx3⟩)
      · have c3 := HA.out W3 hJ3
        clear HA
        gi_wp2
        go_roundw
        case rel => exact ⟨k + 1, hle, by rw [Nat.succ_mul, ← A0.out]; go_num, hJ3⟩
        case measure => simp [intOf]; omega
      · gi_wp2
        refine bodyPost_ret (results_none rfl _ _ _) rfl ?_
        exact ⟨⟨_, rfl⟩, .inr hJx3⟩
    · obtain rfl : k = len := by
        apply Classical.byContradiction
        intro hne
        exact hkm (by rw [hi0]; exact hlt.1 (by omega))
      clear hy hR hJ hJx c1' c2' hlt hi0
      gi_wp2
      go_end0
      exact ⟨⟨_, rfl⟩, .inl hJk⟩
set_option maxHeartbeats 2000000 in
theorem chunk155 : ChunkWalk Tryz.prog 155 1 := by
  intro l B o B' o' n m J Jx W hm hnm hJ hJx hR h0
  have hlt : ∀ {k : Nat}, k < (n + m - 1) / m ↔ k * m < n := fun {k} => lt_pieces hm
  generalize (n + m - 1) / m = len at *
  refine callsIn_of_wp Tryz.func155 rfl trivial ?_ rfl
  simp only [Tryz.ntmps155, List.size_toArray, List.length_cons, List.length_nil, Nat.reduceAdd, Nat.reduceSub, Array.replicate_succ, Array.replicate_zero, List.push_toArray, List.append_toArray, List.nil_append, List.cons_append]
  gi_wp2
  gi_loopw [4] (fun i wr => ∃ k : Nat, k ≤ len ∧ i = .int .i64 ((k * m : Nat) : Int) ∧ J k wr) (fun i _ => n + m - (intOf i).toNat)
  case atStart => exact ⟨0, Nat.zero_le _, by simp, h0⟩
  case round =>
    obtain ⟨k, hk, rfl, hJk⟩ := hrel
    obtain ⟨ad, cap, c1', hcap, c2', hy⟩ := hR k wr.drew hk (hJ k wr wr.drew hJk ⟨rfl, rfl, rfl, Nat.le_refl _, fun _ _ _ => rfl⟩)
    have c1 : wr.cell? ⟨B, o, none⟩ = some (.slice ad n cap) := c1'
    have c2 : wr.cell? ⟨B', o', none⟩ = some (.int .i64 (m : Int)) := c2'
    obtain ⟨i0, hi0⟩ : ∃ i0, i0 = k * m := ⟨_, rfl⟩
    rw [← hi0] at hy ⊢
    have A0 : Aside (i0 = k * m) := hi0
    by_cases hkm : i0 < n
    · obtain ⟨c, p, rfl, fn, tmps, assign, body, hyr, hRd⟩ := hy hkm
      obtain ⟨e0, he0⟩ : ∃ e0, e0 = min m (n - i0) := ⟨_, rfl⟩
      have hE : (if n - i0 < m then ((n - i0 : Nat) : Int) else (m : Int)) = (e0 : Int) := by split <;> omega
      rw [← he0, Nat.mul_one] at hyr
      have HR : Aside (RoundIn Fence.wide 0 Tryz.prog l fn tmps assign body wr.drew fun e Y => e = .returned (.bool true) ∧ J (k + 1) Y ∨ e = .returned (.bool false) ∧ Jx Y) := hRd
      have hle : k < len := hlt.2 (by omega)
      have b1 : i0 + e0 ≤ n := by omega
      have b2 : 0 < e0 := by omega
      have b3 : e0 ≤ m := by omega
      have HA : Aside (∀ X, J (k + 1) X → X.cell? ⟨B', o', none⟩ = some (.int .i64 (m : Int))) := fun X hX => (hR (k + 1) X hle hX).choose_spec.choose_spec.2.2.1
      have z1 : (0 : Int) ≤ (i0 : Int) := by omega
      have z2 : (i0 : Int) ≤ (n : Int) := by omega
      have z3 : ¬ cap = i0 := by omega
      have z4 : i0 ≤ n := by omega
      clear hRd hy hR hJ hJx c1' c2' hlt hi0
      gi_wp2
      refine wpIn_wide.2 ?_
      go_region_held3 (fun w' => w'.cell? ⟨B, o, none⟩ = some (.slice (some ⟨c, p, none⟩) n cap) ∧ w'.cell? ⟨B', o', none⟩ = some (.int .i64 (m : Int))) (go_keep) (fail)
      all_goals (try (exfalso; omega))
      rw [← he0]
      clear hE he0
      gi_wp2
      refine ⟨rfl, HR.out.mono ?_⟩
      clear hyr HR c1 c2
      rintro e W3 (⟨rfl, hJ3⟩ | ⟨rfl, hJx3⟩)
      · have c3 := HA.out W3 hJ3
        clear HA
        gi_wp2
        go_roundw
        case rel => exact ⟨k + 1, hle, by rw [Nat.succ_mul, ← A0.out]; go_num, hJ3⟩
        case measure => simp [intOf]; omega
      · gi_wp2
        refine bodyPost_ret (results_none rfl _ _ _) rfl ?_
        exact ⟨⟨_, rfl⟩, .inr hJx3⟩
    · obtain rfl : k = len := by
        apply Classical.byContradiction
        intro hne
        exact hkm (by rw [hi0]; exact hlt.1 (by omega))
      clear hy hR hJ hJx c1' c2' hlt hi0
      gi_wp2
      go_end0
      exact ⟨⟨_, rfl⟩, .inl hJk⟩
end Go.Proofs.YtkdiccgfbfbjlaaGreat
