/- dict's rising: the walk. Own work. -/
import Derived.Test.YtghhloejmikdfaaRisD
namespace Go.Proofs.Ytghhloejmikdfaa
open Go Go.Ev Go.RowKit Go.Lib Go.Sort
set_option linter.unusedVariables false
set_option linter.unusedSimpArgs false

set_option maxHeartbeats 4000000 in
theorem compact_zero (a : Option Addr) (c : Nat) (w : World) : Calls Try.prog 31 #[.slice a 0 c, .func (.func 32) #[] #[]] w fun e w' => e = .returned (.slice a 0 c) ∧ w' = w := by
  go_enter Try.func31, Try.ntmps31
  go_wp2
  go_ret
  exact ⟨rfl, rfl⟩
theorem len_reached (p : Option Addr) (n c : Nat) : Reaches Try.prog 46 (.slice p n c) "Len" 70 := ⟨fun _ => by kernel_rfl, enters_of Try.func70 (by kernel_rfl) rfl⟩
theorem less_reached (p : Option Addr) (n c : Nat) : Reaches Try.prog 46 (.slice p n c) "Less" 71 := ⟨fun _ => by kernel_rfl, enters_of Try.func71 (by kernel_rfl) rfl⟩
theorem swap_reached (p : Option Addr) (n c : Nat) : Reaches Try.prog 46 (.slice p n c) "Swap" 72 := ⟨fun _ => by kernel_rfl, enters_of Try.func72 (by kernel_rfl) rfl⟩

theorem rd_sortWorld {F : Nat → Prop} {E : Nat → Value} {w : World} {blk off m : Nat} {dk : Array Nat} {os : Array Obj} (hF : ∀ b, F b → b ≠ blk ∧ b < w.heap.size) {v : Value} {x : D} (h : Rd F w v x) : Rd F (sortWorld E w blk off m dk os) v x :=
  h.mono fun b o u hb hc => ⟨hb, by
    obtain ⟨h1, h2⟩ := hF b hb
    unfold sortWorld
    rw [cell?_grow _ _ _ (by simpa using h2), cell?_putRow_other _ _ _ _ _ _ (.inl h1), cell?_ahead]
    exact hc⟩
theorem sort_texts {F : Nat → Prop} (E : Nat → Value) (T : Nat → Tx) (blk c n : Nat) (w : World) (hn : 0 < n) (hsz : n ≤ 1000000) (hF : ∀ b, F b → b ≠ blk ∧ b < w.heap.size) (hblk : blk < w.heap.size) (hS : ∀ i, ∃ p m c, E i = .slice p m c) (hR : ∀ i, Rd F w (E i) (txt (T i)))
    (hH : Holds E w blk 0 (Array.range n)) :
    Calls Try.prog 30 #[.iface 46 (.slice (some ⟨blk, 0, none⟩) n c)] w fun e w' => e = .returned (.tuple #[]) ∧ ∃ d' q os, PermIn 0 n (Array.range n) d' ∧ SortedIn (fun i j => Op.bytesLess (T i) (T j)) 0 n d' ∧ w' = sortWorld E w blk 0 q d' os := by
  by_cases h1 : n ≤ 1
  · refine (Try.sort_Sort_tiny (α := Nat) 46 (.slice (some ⟨blk, 0, none⟩) n c) 70 (len_reached _ _ _) n h1 w (len_calls _ _ _ _)).mono fun e w' ⟨h2, q, h3⟩ => ⟨h2, Array.range n, q, #[], ⟨rfl, fun _ _ => rfl, .refl _⟩, fun i j _ _ _ => by omega, ?_⟩
    rw [h3]
    unfold sortWorld
    rw [grow_empty]
    exact (putRow_self E (Sort.ahead w q) blk 0 _ (holds_ahead E w q blk 0 _ hH)).symm
  · have hs : (Array.range n).size = n := Array.size_range
    have hless : LessM Try.prog 71 (.slice (some ⟨blk, 0, none⟩) n c) E (fun i j => Op.bytesLess (T i) (T j)) blk 0 (Array.range n).size w := fun m os dk hd i j hi hj => by
      rw [hs] at hd hi hj
      have hh := holds_sortWorld E w blk 0 m _ dk os hblk hH (by rw [hd, hs])
      exact less_calls blk 0 c n _ _ _ _ _ i j hi hj (by omega) (hh i (by omega)).1 (hh j (by omega)).1 (rd_sortWorld hF (hR _)) (rd_sortWorld hF (hR _))
    have hswap : SwapM Try.prog 72 (.slice (some ⟨blk, 0, none⟩) n c) E blk 0 (Array.range n).size := fun W dk hh hd i j hi hj => by
      rw [hs] at hd hi hj
      obtain ⟨p, m, d, e1⟩ := hS dk[i]!
      obtain ⟨q, m', d', e2⟩ := hS dk[j]!
      rw [e1, e2]
      have h1 := hh i (by omega)
      have h2 := hh j (by omega)
      rw [e1] at h1
      rw [e2] at h2
      exact swap_calls blk 0 c n W p q m m' d d' i j hi hj (by omega) h1.1 h2.1 h1.2 h2.2
    have := Try.sort_Sort_sorted 46 (.slice (some ⟨blk, 0, none⟩) n c) 70 71 72 (len_reached _ _ _) (less_reached _ _ _) (swap_reached _ _ _) E (fun i j => Op.bytesLess (T i) (T j)) (swo_txt T) blk 0 (Array.range n) (by omega) (by omega) w
      (by rw [hs]; exact len_calls _ _ _ _) hless hswap hH hblk
    rw [hs] at this
    exact this

theorem sortWorld_only {E : Nat → Value} {w : World} {blk off q : Nat} {d : Array Nat} {os : Array Obj} (hblk : blk < w.heap.size) : (∀ b, b < w.heap.size → b ≠ blk → (sortWorld E w blk off q d os).heap[b]? = w.heap[b]?) ∧ w.heap.size ≤ (sortWorld E w blk off q d os).heap.size ∧ SameIO w (sortWorld E w blk off q d os) ∧
    (∀ o, (∃ u, w.cell? (ad3 blk o) = some u) → (∃ u, (sortWorld E w blk off q d os).cell? (ad3 blk o) = some u) ∧ (sortWorld E w blk off q d os).frozen? (ad3 blk o) = w.frozen? (ad3 blk o)) ∧ (NoFz w blk → NoFz (sortWorld E w blk off q d os) blk) := by
  have hO : OnlyB blk w (putRow E (Sort.ahead w q) blk off d) := onlyB_trans (onlyB_ahead (onlyB_refl blk w) q) (onlyB_putRow E _ blk off d)
  have hg : ∀ b, b < w.heap.size → (sortWorld E w blk off q d os).heap[b]? = (putRow E (Sort.ahead w q) blk off d).heap[b]? := fun b hb => heap_grow_old _ _ (by rw [hO.size]; exact hb)
  refine ⟨fun b hb hne => (hg b hb).trans (hO.other b hne), ?_, ⟨rfl, rfl, rfl⟩, fun o hu => ⟨?_, ?_⟩, fun h => (hO.nofz h).heap (hg blk hblk)⟩
  · simp [sortWorld, grow]
  · obtain ⟨u, hu⟩ := hu
    rw [cell_of_heap (hg blk hblk)]
    exact hO.keep o u hu
  · rw [froz_of_heap (hg blk hblk)]
    exact hO.froz o hu

set_option maxHeartbeats 4000000 in
theorem rising_empty (ad : Option Addr) (cap : Nat) (w : World) : Calls Try.prog 21 #[.slice ad 0 cap] w fun e w' => ∃ ad' c', e = .returned (.slice ad' 0 c') ∧ Below w.heap.size w w' := by
  have hC : Calls Try.prog 29 #[.slice ad 0 cap] w fun e w' => ∃ ad c', e = .returned (.slice ad 0 c') ∧ Below w.heap.size w w' := by
    cases ad with
    | none => exact (clone_nil 0 cap w).mono fun e w' ⟨h1, h2⟩ => ⟨none, 0, h1, by rw [h2]; exact Below.refl _ _⟩
    | some a => exact clone_zero a cap w
  go_enter Try.func21, Try.ntmps21
  go_wp2_with (go_at_call 29; refine hC.mono ?_; rintro e w1 ⟨ad1, c1, rfl, hB⟩)
  have hT := Try.sort_Sort_tiny (α := Nat) 46 (.slice ad1 0 c1) 70 (len_reached _ _ _) 0 (by omega) w1 (len_calls _ _ _ _)
  go_wp2_with (go_at_call 30; refine hT.mono ?_; rintro e w2 ⟨rfl, q, rfl⟩)
  go_wp2_with (go_at_call 31; refine (compact_zero _ _ _).mono ?_; rintro e w3 ⟨rfl, rfl⟩)
  go_wp2
  go_ret
  exact ⟨_, _, rfl, hB.os, hB.tape, hB.output, hB.size, hB.block⟩
end Go.Proofs.Ytghhloejmikdfaa
