/- Types: every column of a tree that may be. -/
import Derived.Test.YtnabebdceaoiiaaGreatDoorTyF
import Derived.Test.YtnabebdceaoiiaaGreatDoorFlD
namespace Go.Proofs.YtnabebdceaoiiaaGreatDoor
open Go Go.Ev
set_option linter.unusedVariables false
set_option linter.unusedSimpArgs false
set_option maxHeartbeats 4000000

theorem w7 : (∀ (t : Ty) (i : Nat) (p q : Int), flatT i p q t = (flatR i p q t).map fun n => nodT n.1 n.2.1 n.2.2.1 n.2.2.2)
  | .mk k ns ks l pr s, i, p, q => by rw [flatT_eq, jd, List.map_cons, show (Ty.mk k ns ks l pr s).kids = ks from rfl, flatTs_map ks]
where flatTs_map : ∀ (ks : List Ty) (i par : Nat) (q : Int), d6 i par q ks = (bh i par q ks).map fun n => nodT n.1 n.2.1 n.2.2.1 n.2.2.2
  | [], i, par, q => by rw [flatTs_nil, bh]; rfl
  | k :: r, i, par, q => by rw [flatTs_cons, bh, List.map_append, w7 k, flatTs_map r]
/-! few -/
theorem few_K : ∀ (m : Nat) (t : Ty) (deep : Nat), fewT deep t < 1000 → fewK m t
  | 0, _, _, _ => trivial
  | m + 1, t, deep, h => by
    have key : ∀ (r : List Ty) (n : Int), fewTs (deep + 1) n r < 1000 → ∀ k ∈ r, fewT (deep + 1) k < 1000 ∨ n < 0 := by
      intro r
      induction r with
      | nil => intro n _ k hk; cases hk
      | cons y r ih =>
        intro n h k hk
        rw [fewTs_cons] at h
        have hb := fewT_bd _ y (deep + 1) (Nat.le_refl _)
        split at h
        · omega
        · rename_i hc
          simp only [decide_eq_true_eq] at hc
          rcases List.mem_cons.1 hk with rfl | hk
          · by_cases hn : n < 0
            · exact .inr hn
            · left
              by_cases hl : fewT (deep + 1) k < 1000
              · exact hl
              · exfalso
                have : ∀ (r : List Ty) (n : Int), 1000 ≤ n → ¬ fewTs (deep + 1) n r < 1000 := by
                  intro r
                  induction r with
                  | nil => intro n hn h; rw [fewTs_nil] at h; omega
                  | cons y r ih2 =>
                    intro n hn h
                    rw [fewTs_cons] at h
                    have hb := fewT_bd _ y (deep + 1) (Nat.le_refl _)
                    split at h
                    · omega
                    · exact ih2 _ (by omega) h
                exact this r _ (by omega) h
          · rcases ih _ h k hk with h1 | h1
            · exact .inl h1
            · right; omega
    rw [fewT_eq] at h
    split at h
    · omega
    · rename_i hc
      simp only [Bool.or_eq_true, decide_eq_true_eq, not_or] at hc
      split at h
      · omega
      · refine ⟨by omega, by omega, fun k hk => few_K m k (deep + 1) ?_⟩
        rcases key t.kids 1 h k hk with h1 | h1
        · exact h1
        · omega
theorem ou : ∀ (m : Nat) (t : Ty), fewK m t → smallT m t
  | 0, _, _ => trivial
  | m + 1, t, ⟨a, b, c⟩ => ⟨by omega, by omega, fun k hk => ou m k (c k hk)⟩
theorem few_all {t : Ty} (h : fewTB t = true) : fewK t.size t ∧ smallT t.size t := by
  have h1 : fewT 1 t ≤ 150 := by simpa [fewTB] using h
  have := few_K t.size t 1 (by omega)
  exact ⟨this, ou _ _ this⟩
theorem flat_ans (t : Ty) (hs : t.size ≤ 1000) : evL cfg n_bq 0 [.d .nilS, .d t.d, .d (.int .i64 (-1)), .d (.int .i64 (1))] [] = some (.own false 9 ((flatR 0 (-1) 1 t).map sigD), []) := by
  refine cm (n := 1) ?_
  have hx : cfg.ext n_bq = some xFlat := rfl
  simp only [evFn, hx, allD, Option.map_some, Option.bind_some, xFlat, tyOf_d 1000 t hs]
  rw [if_pos ⟨by omega, by omega, by omega, by omega⟩]
  rfl
theorem kh (t : Ty) (hs : smallT t.size t) (h : (chkT 1 0 t).2 = 0) : evL cfg n_ay 0 [.d t.d] [] = some (.own false 9 ((flatR 0 (-1) 1 t).map sigD), []) := by
  have hz := aaz h
  have h1 := ref13_Check_ans t hs
  have h2 := flat_ans t (by omega)
  rw [h] at h1
  rw [o_ay]
  generalize (flatR 0 (-1) 1 t).map sigD = q at *
  simp (disch := first | omega | (simp only [go_sem, List.length_take, List.length_drop] <;> omega) | assumption | decide | fail) only [go_sem, X_ay, c_ay, h1, h2, Nat.reduceLeDiff, Nat.reduceLT, Nat.reduceAdd, Int.reduceAdd, Int.reduceSub, Int.reduceNeg, ↓reduceIte, Nat.reduceEqDiff, reduceCtorEq, Int.reduceBEq, Int.reduceBNe, Nat.reduceBEq]
end Go.Proofs.YtnabebdceaoiiaaGreatDoor
