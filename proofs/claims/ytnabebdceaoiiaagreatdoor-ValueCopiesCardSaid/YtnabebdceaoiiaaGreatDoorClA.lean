/- Columns closed, in the document: what is read, what is written; a column and what is in it, walked. -/
import Derived.Test.YtnabebdceaoiiaaGreatDoorFlD
import Derived.Test.YtnabebdceaoiiaaGreatDoorL9
namespace Go.Proofs.YtnabebdceaoiiaaGreatDoor
open Go Go.Ev Go.RowKit
set_option linter.unusedVariables false
set_option linter.unusedSimpArgs false

abbrev TQ : TypeId := 4
/-- a slice of numbers, as it lies -/
def NumAt (base : Nat) (W : World) (v : Value) (ks : List Int) : Prop :=
  ∃ ad c, v = .slice ad ks.length c ∧ ∀ (i : Nat) k, ks[i]? = some k → ∃ kb ko, ad = some (ad3 kb ko) ∧ kb < base ∧ W.cell? (ad3 kb (ko + i)) = some (.int .i64 k)
def CnAt (base : Nat) (W : World) (v : Value) (ns : List Cn) : Prop :=
  ∃ ad c, v = .slice ad ns.length c ∧ ∀ (p : Nat) n, ns[p]? = some n → ∃ b o, ad = some (ad3 b o) ∧ b < base ∧ W.cell? (ad3 b (o + p * 9)) = some (.int .i64 n.kind) ∧ W.cell? (ad3 b (o + p * 9 + 7)) = some (.int .i64 n.par) ∧
    ∃ kv, W.cell? (ad3 b (o + p * 9 + 6)) = some kv ∧ NumAt base W kv (n.kids.map fun (k : Nat) => (k : Int))
theorem NumAt.out2 {base : Nat} {W : World} {ad : Option Addr} {n c : Nat} {ks : List Int} (h : NumAt base W (.slice ad n c) ks) {i : Nat} {k : Int} (hk : ks[i]? = some k) : ∃ kb ko, ad = some (ad3 kb ko) ∧ kb < base ∧ W.cell? (ad3 kb (ko + i)) = some (.int .i64 k) := by
  obtain ⟨ad', c', e, h⟩ := h
  cases e
  exact h i k hk
theorem CnAt.out2 {base : Nat} {W : World} {ad : Option Addr} {m c : Nat} {ns : List Cn} (h : CnAt base W (.slice ad m c) ns) {p : Nat} {n : Cn} (hn : ns[p]? = some n) : ∃ b o, ad = some (ad3 b o) ∧ b < base ∧ W.cell? (ad3 b (o + p * 9)) = some (.int .i64 n.kind) ∧ W.cell? (ad3 b (o + p * 9 + 7)) = some (.int .i64 n.par) := by
  obtain ⟨ad', c', e, h⟩ := h
  cases e
  obtain ⟨b, o, h1, h2, h3, h4, _⟩ := h p n hn
  exact ⟨b, o, h1, h2, h3, h4⟩
section
variable {base g : Nat} {W W' : World} {v : Value}
theorem NumAt.kept {ks : List Int} (h : NumAt base W v ks) (hg : W.grownBy W' (some g)) (hb : base ≤ g) : NumAt base W' v ks := by
  obtain ⟨ad, c, rfl, h⟩ := h
  refine ⟨ad, c, rfl, fun i k hk => ?_⟩
  obtain ⟨kb, ko, e, h1, h2⟩ := h i k hk
  exact ⟨kb, ko, e, h1, hg.cell h2 (by show some kb ≠ some g; intro e; cases e; omega)⟩
theorem CnAt.kept {ns : List Cn} (h : CnAt base W v ns) (hg : W.grownBy W' (some g)) (hb : base ≤ g) : CnAt base W' v ns := by
  obtain ⟨ad, c, rfl, h⟩ := h
  refine ⟨ad, c, rfl, fun p n hn => ?_⟩
  obtain ⟨b, o, e, h1, h2, h3, kv, h4, h5⟩ := h p n hn
  have hne : ∀ o, some (ad3 b o).block ≠ some g := fun o => by show some b ≠ some g; intro e; cases e; omega
  exact ⟨b, o, e, h1, hg.cell h2 (hne _), hg.cell h3 (hne _), kv, hg.cell h4 (hne _), h5.kept hg hb⟩
end
theorem NumAt.of_rd {F : Nat → Prop} {W : World} {v : Value} {ks : List Int} (h : Rd F W v (.sl (ks.map (D.int .i64)))) : NumAt W.heap.size W v ks := by
  generalize hd : ks.map (D.int .i64) = es at h
  cases h with
  | slA ad cap =>
    have : ks = [] := List.map_eq_nil_iff.1 hd
    subst this
    exact ⟨ad, cap, rfl, fun i k hk => by simp at hk⟩
  | sl b o len cap z es vs hlen hcap hz hc hm h =>
    subst hd
    rw [List.length_map] at hlen
    refine ⟨some (ad3 b o), cap, by rw [hlen], fun i k hk => ?_⟩
    have he : (ks.map (D.int .i64))[i]? = some (D.int .i64 k) := by rw [List.getElem?_map, hk]; rfl
    have hz1 : z = 1 := by rw [← hz _ (List.mem_of_getElem? he)]; rfl
    subst hz1
    have h0 := (hm i _ he 0 (D.int .i64 k) rfl).2
    have h1 := h i _ he 0 (D.int .i64 k) rfl
    generalize vs i 0 = u at h0 h1
    cases h1
    rw [show o + i * 1 + 0 = o + i by omega] at h0
    exact ⟨b, o, rfl, World.block_lt_of_cell? _ _ h0, h0⟩
theorem CnAt.of_rd {F : Nat → Prop} {W : World} {v : Value} {ds : List D} {ns : List Cn} (hn : cnsOf ds = some ns) (h : Rd F W v (.sl ds)) : CnAt W.heap.size W v ns := by
  have hl := xp hn
  generalize hd : D.sl ds = e at h
  cases h with
  | slA ad cap =>
    cases hd
    have : ns = [] := List.eq_nil_of_length_eq_zero (by rw [← hl]; rfl)
    subst this
    exact ⟨ad, cap, rfl, fun i k hk => by simp at hk⟩
  | sl b o len cap z es vs hlen hcap hz hc hm h =>
    cases hd
    refine ⟨some (ad3 b o), cap, by rw [← hl, hlen], fun p n hp => ?_⟩
    obtain ⟨d, he, hcn⟩ := ah3 hn hp
    obtain ⟨a1, a2, a3, a4, a5, a6, rfl⟩ := cnOf_inv hcn
    have hz9 : z = 9 := by rw [← hz _ (List.mem_of_getElem? he)]; rfl
    subst hz9
    have k0 := (hm p _ he 0 _ rfl).2
    have k7 := (hm p _ he 7 _ rfl).2
    have k6 := (hm p _ he 6 _ rfl).2
    have r0 := h p _ he 0 _ rfl
    have r7 := h p _ he 7 _ rfl
    have r6 := h p _ he 6 _ rfl
    generalize vs p 0 = u0 at k0 r0
    generalize vs p 7 = u7 at k7 r7
    cases r0
    cases r7
    refine ⟨b, o, rfl, World.block_lt_of_cell? _ _ k0, k0, k7, _, k6, ?_⟩
    refine NumAt.of_rd (F := F) ?_
    rw [List.map_map]
    exact r6
  | _ => cases hd
/-- the flags, as they lie -/
def Fl (base : Nat) (W : World) (g n cap : Nat) (bs : List Bool) : Prop := W.ownsRow base TQ 1 (.slice (some ⟨g, 0, none⟩) n cap) n (bs.map Value.bool)
theorem Fl.set {base g n cap p : Nat} {W : World} {bs : List Bool} (h : Fl base W g n cap bs) (b : Bool) : Fl base (W.setCell ⟨g, p, none⟩ (.bool b)) g n cap (bs.set p b) ∧ W.grownBy (W.setCell ⟨g, p, none⟩ (.bool b)) (some g) := by
  obtain ⟨h1, h2⟩ := World.ownsRow.stored h p (.bool b)
  exact ⟨by unfold Fl; rw [List.map_set]; exact h1, h2⟩
theorem Fl.cell {base g n cap p : Nat} {W : World} {bs : List Bool} (h : Fl base W g n cap bs) (hp : p < n) : ∃ u, W.cell? ⟨g, p, none⟩ = some u := by
  rw [World.ownsRow.cellAt h p (by omega)]
  have hl := h.1
  exact ⟨_, List.getElem?_eq_getElem (by omega)⟩
theorem Fl.froz {base g n cap : Nat} {W : World} {bs : List Bool} (h : Fl base W g n cap bs) (p : Nat) : W.frozen? ⟨g, p, none⟩ = false := World.ownsRow.frozenAt h p
theorem Fl.len {base g n cap : Nat} {W : World} {bs : List Bool} (h : Fl base W g n cap bs) : bs.length = n := by have := h.1; simpa using this
end Go.Proofs.YtnabebdceaoiiaaGreatDoor
