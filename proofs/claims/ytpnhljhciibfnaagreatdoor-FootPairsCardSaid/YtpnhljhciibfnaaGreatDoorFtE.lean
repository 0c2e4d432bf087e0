/- A footer's fields: what counts of them; what a footer of parts reads. -/
import Derived.Test.YtpnhljhciibfnaaGreatDoorFtQ
namespace Go.Proofs.YtpnhljhciibfnaaGreatDoor
open Go Go.Ev
set_option linter.unusedVariables false
set_option linter.unusedSimpArgs false
set_option maxHeartbeats 4000000

abbrev Cr := Nat × Nat × Nat × List UInt8
def addC (p : Parts) (c : Cr) : Parts :=
  if c.2.1 ≠ 2 then p else
  if c.1 = 7 then { p with e := p.e ++ [(parseM c.2.2.2).1], st := p.st ++ [c.2.2.2] } else
  if c.1 = 3 then { p with a := p.a ++ [(parseM c.2.2.2).1] } else
  if c.1 = 4 then { p with b := p.b ++ [(parseM c.2.2.2).1] } else
  if c.1 = 5 then { p with c := p.c ++ [(parseM c.2.2.2).1] } else p
theorem splM_core : ∀ (fs : List Fld) (p : Parts), splM fs p = (fs.map Fld.core).foldl addC p
  | [], _ => rfl
  | f :: r, p => by rw [splM, List.map_cons, List.foldl_cons, splM_core r]; rfl
def wantC (c : Cr) : Prop := c.2.1 = 2 → (c.1 = 7 ∨ c.1 = 3 ∨ c.1 = 4 ∨ c.1 = 5) → (parseM c.2.2.2).2 = 0
theorem want_core {fs : List Fld} (h : ∀ c ∈ fs.map Fld.core, wantC c) : ∀ f ∈ fs, wantF f := fun f hf => h f.core (List.mem_map.2 ⟨f, hf, rfl⟩)
def tC (cs : List Cr) (k : Nat) : List UInt8 := match cs.reverse.find? fun c => c.1 == k && c.2.1 == 2 with
  | some c => c.2.2.2
  | none => []
theorem tM_core (fs : List Fld) (k : Nat) : tM fs k = tC (fs.map Fld.core) k := by
  unfold tM tC lastM
  rw [← List.map_reverse, List.find?_map]
  have : ((fun c : Cr => c.1 == k && c.2.1 == 2) ∘ Fld.core) = isF k 2 := rfl
  rw [this]
  cases fs.reverse.find? (isF k 2) <;> rfl
theorem uC_snoc (cs : List Cr) (c : Cr) (k : Nat) : uC (cs ++ [c]) k = if c.1 = k ∧ c.2.1 = 0 then c.2.2.1 else uC cs k := by
  unfold uC
  rw [List.reverse_append, List.reverse_cons, List.reverse_nil, List.nil_append, List.singleton_append, List.find?_cons]
  by_cases h : c.1 = k ∧ c.2.1 = 0
  · rw [if_pos h, show (c.1 == k && c.2.1 == 0) = true by simp [h]]
  · rw [if_neg h, show (c.1 == k && c.2.1 == 0) = false by
      rw [Bool.and_eq_false_iff]; simp only [beq_eq_false_iff_ne, ne_eq]
      rcases Decidable.not_and_iff_not_or_not.1 h with h | h
      · exact .inl h
      · exact .inr h]
theorem uC_append (cs ds : List Cr) (k : Nat) (h : ∀ c ∈ ds, ¬ (c.1 = k ∧ c.2.1 = 0)) : uC (cs ++ ds) k = uC cs k := by
  induction ds generalizing cs with
  | nil => rw [List.append_nil]
  | cons d r ih =>
    rw [show cs ++ d :: r = (cs ++ [d]) ++ r by simp, ih _ (fun c hc => h c (by simp [hc])), uC_snoc, if_neg (h d (by simp))]
end Go.Proofs.YtpnhljhciibfnaaGreatDoor
