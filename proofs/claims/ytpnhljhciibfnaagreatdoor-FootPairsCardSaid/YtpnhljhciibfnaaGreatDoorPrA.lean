/- User's data in a footer: what is written is read, in plain words. -/
import Derived.Test.YtpnhljhciibfnaaGreatDoorFtT
namespace Go.Proofs.YtpnhljhciibfnaaGreatDoor
open Go Go.Ev
set_option linter.unusedVariables false
set_option linter.unusedSimpArgs false
set_option maxHeartbeats 4000000

theorem tC_snoc (cs : List Cr) (c : Cr) (k : Nat) : tC (cs ++ [c]) k = if c.1 = k ∧ c.2.1 = 2 then c.2.2.2 else tC cs k := by
  unfold tC
  rw [List.reverse_append, List.reverse_cons, List.reverse_nil, List.nil_append, List.singleton_append, List.find?_cons]
  by_cases h : c.1 = k ∧ c.2.1 = 2
  · rw [if_pos h, show (c.1 == k && c.2.1 == 2) = true by simp [h]]
  · rw [if_neg h, show (c.1 == k && c.2.1 == 2) = false by
      rw [Bool.and_eq_false_iff]; simp only [beq_eq_false_iff_ne, ne_eq]
      rcases Decidable.not_and_iff_not_or_not.1 h with h | h
      · exact .inl h
      · exact .inr h]
theorem pr_read {p : Pr} (h : prOk p) : ∃ fs, parseM (putB (prU p)) = (fs, 0) ∧ fs.map Fld.core = (prU p).map Put.core := by
  have hl := prU_len h
  exact parseM_put (prU p) (fun x hx => by
    simp only [prU, List.mem_cons, List.not_mem_nil, or_false] at hx
    rcases hx with rfl | rfl <;> simp only [Put.ok] <;> omega) (by omega) (by simp [prU])
def prF (p : Pr) : List Fld := (parseM (putB (prU p))).1
theorem prF_t {p : Pr} (h : prOk p) : tM (prF p) 1 = p.1 ∧ tM (prF p) 2 = p.2 ∧ pairOk (prF p) := by
  obtain ⟨fs, h1, h2⟩ := pr_read h
  have hl := prU_len h
  have ok := parseM_ok (putB (prU p))
  unfold prF
  rw [h1] at ok ⊢
  obtain ⟨ok1, ok2⟩ := ok
  simp only at ok1 ok2 ⊢
  have e : (prU p).map Put.core = ([] ++ [(1, 2, 0, p.1)]) ++ [(2, 2, 0, p.2)] := rfl
  refine ⟨?_, ?_, by omega, fun f hf => Nat.le_trans (ok1 f hf) (by omega)⟩
  · rw [tM_core, h2, e, tC_snoc, if_neg (by simp), tC_snoc, if_pos ⟨rfl, rfl⟩]
  · rw [tM_core, h2, e, tC_snoc, if_pos ⟨rfl, rfl⟩]
theorem prF_d {p : Pr} (h : prOk p) : pairD (prF p) = prD p := by
  obtain ⟨h1, h2, _⟩ := prF_t h
  unfold pairD prD
  rw [h1, h2]
theorem stat0_read : (parseM stat0).2 = 0 := by kernel_rfl
theorem typ_read : parseM (putB [.u 1 12]) = ([⟨1, 0, 12, [], 0⟩], 0) := by kernel_rfl
def prParts (l : List Pr) : Parts := ⟨[], [[⟨1, 0, 12, [], 0⟩]], l.map prF, [(parseM stat0).1], [stat0]⟩
theorem fold_prs : ∀ (l : List Pr) (p : Parts), ((l.map prP).map Put.core).foldl addC p = { p with c := p.c ++ l.map prF }
  | [], p => by simp
  | r :: rs, p => by
    rw [List.map_cons, List.map_cons, List.foldl_cons, fold_prs rs]
    have : addC p (prP r).core = { p with c := p.c ++ [prF r] } := rfl
    rw [this]
    simp
theorem prsP_core (l : List Pr) : (prsP l).map Put.core = [(1, 0, 3, []), (2, 0, 0, []), (4, 2, 0, putB [.u 1 12])] ++ (((l.map prP).map Put.core) ++ [(6, 0, 0, []), (7, 2, 0, stat0), (8, 0, 0, [])]) := by
  unfold prsP; rw [List.map_append, List.map_append]; rfl
theorem prsP_len (l : List Pr) (ok : ∀ p ∈ l, prOk p) : (putB (prsP l)).length ≤ 1360 * (l.length + 6) := by
  have := putB_len (prsP l) 1360 (fun x hx => by
    unfold prsP at hx
    simp only [List.mem_append, List.mem_cons, List.not_mem_nil, or_false, List.mem_map] at hx
    rcases hx with (rfl | rfl | rfl) | (⟨r, hr, rfl⟩ | rfl | rfl | rfl)
    · exact Nat.le_trans (uintF_len _ _).2 (by omega)
    · exact Nat.le_trans (uintF_len _ _).2 (by omega)
    · decide
    · exact prP_len (ok r hr)
    · exact Nat.le_trans (uintF_len _ _).2 (by omega)
    · decide
    · exact Nat.le_trans (uintF_len _ _).2 (by omega))
  have h : (prsP l).length = l.length + 6 := by simp [prsP]
  rw [h] at this; exact this
theorem pr_ok (l : List Pr) (hl : l.length ≤ 32) (ok : ∀ p ∈ l, prOk p) : ∃ fs, FootOk (putB (prsP l)) fs (prParts l) ∧ uM fs 2 = 0 ∧ uM fs 6 = 0 ∧ uM fs 8 = 0 := by
  have hlen := prsP_len l ok
  obtain ⟨fs, h1, h2⟩ := parseM_put (prsP l) (fun x hx => by
    unfold prsP at hx
    simp only [List.mem_append, List.mem_cons, List.not_mem_nil, or_false, List.mem_map] at hx
    rcases hx with (rfl | rfl | rfl) | (⟨r, _, rfl⟩ | rfl | rfl | rfl) <;> simp only [Put.ok, prP] <;> omega) (by omega) (by simp [prsP]; omega)
  rw [prsP_core] at h2
  have nz : ∀ k, k = 2 ∨ k = 6 ∨ k = 8 → uM fs k = 0 := by
    intro k hk
    rw [uM_core, h2]
    unfold uC
    split
    · rename_i c hc
      have hm := List.mem_reverse.1 (List.mem_of_find?_eq_some hc)
      have hp := List.find?_some hc
      simp only [List.mem_append, List.mem_cons, List.not_mem_nil, or_false, List.mem_map] at hm
      rcases hm with (rfl | rfl | rfl) | (⟨_, ⟨r, _, rfl⟩, rfl⟩ | rfl | rfl | rfl)
      · simp at hp; omega
      · rfl
      · rfl
      · rfl
      · rfl
      · rfl
      · rfl
    · rfl
  have u2 := nz 2 (by omega)
  have u6 := nz 6 (by omega)
  have u8 := nz 8 (by omega)
  refine ⟨fs, ⟨by omega, h1, want_core fun c hc => ?_, ?_, by omega, by omega, by omega, by simp [prParts], by simp [prParts], rfl, by simpa [prParts] using hl, fun q hq => ?_⟩, u2, u6, u8⟩
  · rw [h2] at hc
    simp only [List.mem_append, List.mem_cons, List.not_mem_nil, or_false, List.mem_map] at hc
    rcases hc with (rfl | rfl | rfl) | (⟨_, ⟨r, hr, rfl⟩, rfl⟩ | rfl | rfl | rfl)
    · intro h; simp at h
    · intro h; simp at h
    · intro _ _; rw [typ_read]
    · intro _ _
      obtain ⟨gs, g1, g2⟩ := pr_read (ok r hr)
      show (parseM (putB (prU r))).2 = 0
      rw [g1]
    · intro h; simp at h
    · intro _ _; exact stat0_read
    · intro h; simp at h
  · rw [splM_core, h2, List.foldl_append, List.foldl_append, fold_prs]
    unfold prParts
    simp [addC, typ_read, noParts]
  · unfold prParts at hq
    obtain ⟨r, hr, rfl⟩ := List.mem_map.1 hq
    exact (prF_t (ok r hr)).2.2
end Go.Proofs.YtpnhljhciibfnaaGreatDoor
