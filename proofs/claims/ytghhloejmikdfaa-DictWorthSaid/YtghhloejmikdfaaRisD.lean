/- dict's rising: the texts, each once, rising. Own work. -/
import Derived.Test.YtghhloejmikdfaaRisC
namespace Go.Proofs.Ytghhloejmikdfaa
open Go Go.Ev Go.RowKit Go.Lib Go.Sort
set_option linter.unusedVariables false
set_option linter.unusedSimpArgs false

theorem rise_snoc {x : Tx} : ∀ {a : List Tx}, Rise a → (∀ y ∈ a, Op.bytesLess y x = true) → Rise (a ++ [x])
  | [], _, _ => ⟨by simp, trivial⟩
  | y :: a, h, hx => ⟨fun z hz => by
      rcases List.mem_append.1 hz with e | e
      · exact h.1 z e
      · rw [List.mem_singleton.1 e]; exact hx y List.mem_cons_self, rise_snoc h.2 fun z hz => hx z (List.mem_cons_of_mem _ hz)⟩
/-- what stays of sorted places rises, and has all their texts -/
theorem cpT_rise {T : Nat → Tx} {d : Array Nat} (hs : SortedIn (fun i j => Op.bytesLess (T i) (T j)) 0 d.size d) : ∀ m, m ≤ d.size → Rise ((cpT T d m).map T) ∧ ∀ z, z ∈ (cpT T d m).map T ↔ ∃ j, j < m ∧ T d[j]! = z
  | 0, _ => ⟨trivial, fun z => by simp [cpT]⟩
  | m + 1, hm => by
    obtain ⟨h1, h2⟩ := cpT_rise hs m (by omega)
    rw [cpT]
    cases hst : stays T d m with
    | false =>
      simp only [Bool.false_eq_true, if_false, List.append_nil]
      refine ⟨h1, fun z => ?_⟩
      rw [h2]
      have hm0 : 0 < m ∧ T d[m]! = T d[m - 1]! := by
        unfold stays at hst
        simp only [Bool.or_eq_false_iff, beq_eq_false_iff_ne, bne_eq_false_iff_eq] at hst
        exact ⟨by have := hst.1; omega, hst.2⟩
      constructor
      · rintro ⟨j, hj, e⟩; exact ⟨j, by omega, e⟩
      · rintro ⟨j, hj, e⟩
        by_cases hjm : j < m
        · exact ⟨j, hjm, e⟩
        · have : j = m := by omega
          subst this
          exact ⟨j - 1, by omega, by rw [← hm0.2]; exact e⟩
    | true =>
      simp only [if_true, List.map_append, List.map_cons, List.map_nil]
      refine ⟨rise_snoc h1 fun y hy => ?_, fun z => ?_⟩
      · obtain ⟨j, hj, rfl⟩ := (h2 y).1 hy
        have hne : T d[m]! ≠ T d[m - 1]! := by
          unfold stays at hst
          simp only [Bool.or_eq_true, beq_iff_eq, bne_iff_ne] at hst
          rcases hst with e | e
          · omega
          · exact e
        have h3 := hs (m - 1) m (by omega) (by omega) (by omega)
        have h4 : Op.bytesLess (T d[m - 1]!) (T d[m]!) = true := by
          rcases Bool.eq_false_or_eq_true (Op.bytesLess (T d[m - 1]!) (T d[m]!)) with e | e
          · exact e
          · exact absurd (bl_tri h3 e) hne
        by_cases hjm : j = m - 1
        · rw [hjm]; exact h4
        · exact bl_le_trans (hs j (m - 1) (by omega) (by omega) (by omega)) h4
      · rw [List.mem_append, h2, List.mem_singleton]
        constructor
        · rintro (⟨j, hj, e⟩ | e)
          · exact ⟨j, by omega, e⟩
          · exact ⟨m, by omega, e.symm⟩
        · rintro ⟨j, hj, e⟩
          by_cases hjm : j < m
          · exact .inl ⟨j, hjm, e⟩
          · have : j = m := by omega
            subst this
            exact .inr e.symm
theorem cpT_riseT {l : List Tx} {T : Nat → Tx} {d : Array Nat} (hT : ∀ i x, l[i]? = some x → T i = x) (hp : PermIn 0 l.length (Array.range l.length) d) (hs : SortedIn (fun i j => Op.bytesLess (T i) (T j)) 0 l.length d) : (cpT T d l.length).map T = riseT l := by
  obtain ⟨hz, _, hperm⟩ := hp
  rw [Array.size_range] at hz
  rw [← hz] at hs
  obtain ⟨h1, h2⟩ := cpT_rise hs d.size (Nat.le_refl _)
  rw [hz] at h1 h2
  refine (riseT_unique h1 fun z => ?_).symm
  rw [h2]
  have hmem : ∀ i, i ∈ d.toList ↔ i < l.length := fun i => by
    have e1 : d.extract 0 l.length = d := by rw [← hz]; simp
    have e2 : (Array.range l.length).extract 0 l.length = Array.range l.length := by
      have := Array.extract_size (xs := Array.range l.length)
      rwa [Array.size_range] at this
    rw [e1, e2] at hperm
    rw [hperm.mem_iff]
    simp
  constructor
  · rintro ⟨j, hj, rfl⟩
    have hj' : j < d.size := by omega
    have h3 := (hmem d[j]!).1 (by rw [getElem!_pos d j hj']; simp)
    rw [hT _ _ (List.getElem?_eq_getElem h3)]
    exact List.getElem_mem h3
  · intro hzl
    obtain ⟨i, hi, rfl⟩ := List.mem_iff_getElem.1 hzl
    have h3 := (hmem i).2 hi
    obtain ⟨j, hj, e⟩ := List.mem_iff_getElem.1 h3
    refine ⟨j, by simpa [hz] using hj, ?_⟩
    have hj' : j < d.size := by simpa using hj
    rw [getElem!_pos d j hj', show d[j] = i by simpa using e]
    exact hT i _ (List.getElem?_eq_getElem hi)
theorem swo_txt (T : Nat → Tx) : SWO (fun i j => Op.bytesLess (T i) (T j)) where
  irrefl := fun x => bl_irr _
  trans := fun x y z h k => bl_trans h k
  ntrans := fun x y z h k => by
    rcases Bool.eq_false_or_eq_true (Op.bytesLess (T x) (T z)) with e | e
    · have := bl_le_trans (x := T y) (y := T x) (z := T z) h e
      rw [this] at k; cases k
    · exact e
end Go.Proofs.Ytghhloejmikdfaa
