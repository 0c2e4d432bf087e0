/- TailBegins: the closed calls, as contracts. Own work. -/
import Derived.Test.YtplmdlobbfcknaaGreatDoorTbA
import Derived.Deep.DeepMust
import Derived.Deep.QuietTactic
import Derived.RegionTactic
import Derived.Laws.AppendOwn
import Derived.Laws.OwnMore
import Derived.Maps.AppendAt
import Derived.Deep.AppendLies
namespace Go.Proofs.YtplmdlobbfcknaaGreatDoor
open Go Go.RowKit Go.Me
set_option linter.unusedVariables false
set_option linter.unusedSimpArgs false
set_option maxRecDepth 100000

theorem grown_refl (w : World) (r : Option Nat) : w.grownBy w r := ⟨rfl, rfl, rfl, Nat.le_refl _, fun _ _ _ => rfl⟩
theorem grown_trans {a b c : World} (h : a.grownBy b none) (k : b.grownBy c none) : a.grownBy c none :=
  ⟨k.os.trans h.os, k.tape.trans h.tape, k.output.trans h.output, Nat.le_trans h.size k.size, fun i hi _ => (k.block i (Nat.lt_of_lt_of_le hi h.size) (by simp)).trans (h.block i hi (by simp))⟩
theorem grown_alloc {a b : World} (h : a.grownBy b none) (o : Obj) : a.grownBy (b.alloc o) none := grown_trans h (World.grownBy_alloc _ _ _)
theorem grown_drew {a b : World} (h : a.grownBy b none) : a.grownBy b.drew none := ⟨h.os, h.tape, h.output, h.size, h.block⟩
theorem grown_below {a b : World} (h : a.grownBy b none) : Below a.heap.size a b := ⟨h.os, h.tape, h.output, h.size, fun k hk => h.block k hk (by simp)⟩
theorem grown_set {a w : World} {g o : Nat} {u : Value} (h : a.grownBy w none) (hg : a.heap.size ≤ g) : a.grownBy (w.setCell ⟨g, o, none⟩ u) none :=
  ⟨h.os, h.tape, h.output, by rw [World.size_setCell]; exact h.size, fun b hb _ => (Below.heap_setCell w _ _ _ (by show b ≠ g; omega)).trans (h.block b hb (by simp))⟩


/-- nothing turned but, it may be, the blocks X -/
structure Mov (X : List Nat) (w w' : World) : Prop where
  os : w'.os = w.os
  tape : w'.tape = w.tape
  output : w'.output = w.output
  size : w.heap.size ≤ w'.heap.size
  block : ∀ k, k < w.heap.size → k ∉ X → w'.heap[k]? = w.heap[k]?
theorem Mov.refl (X : List Nat) (w : World) : Mov X w w := ⟨rfl, rfl, rfl, Nat.le_refl _, fun _ _ _ => rfl⟩
theorem Mov.trans {X : List Nat} {a b c : World} (h : Mov X a b) (k : Mov X b c) : Mov X a c :=
  ⟨k.os.trans h.os, k.tape.trans h.tape, k.output.trans h.output, Nat.le_trans h.size k.size, fun i hi hX => (k.block i (Nat.lt_of_lt_of_le hi h.size) hX).trans (h.block i hi hX)⟩
theorem Mov.grown {X : List Nat} {a b : World} (h : a.grownBy b none) : Mov X a b := ⟨h.os, h.tape, h.output, h.size, fun k hk _ => h.block k hk (by simp)⟩
theorem Mov.below {X : List Nat} {a b : World} (h : Mov X a b) {B : Nat} (hB : B ≤ a.heap.size) (hX : ∀ x ∈ X, B ≤ x) : Below B a b :=
  ⟨h.os, h.tape, h.output, h.size, fun k hk => h.block k (by omega) fun hm => by have := hX k hm; omega⟩
theorem Mov.cell {X : List Nat} {a b : World} (h : Mov X a b) {c o : Nat} {v : Value} (hc : a.cell? ⟨c, o, none⟩ = some v) (hX : c ∉ X) : b.cell? ⟨c, o, none⟩ = some v := by
  rw [World.cell?_of_block (w := a) (h.block c (World.block_lt_of_cell? _ _ hc) hX)]; exact hc

theorem Mov.of {X : List Nat} {w w' : World} (hk : ∀ k, k < w.heap.size → k ∉ X → w'.heap[k]? = w.heap[k]?) (hs : w.heap.size ≤ w'.heap.size) (h1 : w'.os = w.os) (h2 : w'.tape = w.tape) (h3 : w'.output = w.output) : Mov X w w' := ⟨h1, h2, h3, hs, hk⟩
theorem tup_sl {ν : Nm} {b n : Nat} {v : Value} (h : VR ν (.tup [.sl b 0 n none, .int .i64 0]) v) : ∃ c s cap, v = .tuple #[.slice (some ⟨c, s, none⟩) n cap, .int .i64 0] ∧ ν b = some c ∧ ν.rm b = (cap, s) ∧ n ≤ cap := by
  obtain ⟨vs, rfl, hh⟩ := h.tup_inv
  obtain ⟨u, r, rfl, g1, g2⟩ := hh.inv_cons
  obtain ⟨u', r', rfl, g3, g4⟩ := g2.inv_cons
  obtain rfl := g4.inv_nil
  cases g3
  cases g1 with | sl _ _ _ _ c cap hc hcap hk hr =>
  refine ⟨c, (ν.rm b).2, cap, by rw [Nat.zero_add], hc, ?_, hcap⟩
  rw [hr rfl rfl]
abbrev stL : List Value := [.int .i64 0, .bool false, .bool false, .bool false, .int .i64 0, .int .i64 0, .slice none 0 0, .slice none 0 0, .bool false, .int .i64 0, .int .i64 0, .slice none 0 0, .slice none 0 0, .bool false, .int .i64 0]
theorem laid_to {w w' : World} {n : Nat} (h : Laid cfg0 w) (h0 : 0 < n) (B : Below n w w') : Laid cfg0 w' := fun k cs hk => by
  have : k = 0 := by
    have hk : gE k = some cs := hk
    unfold gE at hk
    split at hk
    · assumption
    · cases hk
  subst this
  obtain ⟨vs, e, fr, h1, h2⟩ := h 0 cs hk
  exact ⟨vs, e, fr, (B.block 0 h0).trans h1, h2⟩
theorem gE_lt {n : Nat} (h0 : 0 < n) : ∀ k cs, cfg0.gobj k = some cs → k < n := fun k cs hk => by
  have hk : gE k = some cs := hk
  unfold gE at hk
  split at hk
  · omega
  · cases hk
section
variable {w : World} {base : Nat} (hL : Laid cfg0 w) (h0 : 0 < base) (hbw : base ≤ w.heap.size)
include hL h0 hbw
theorem foot_calls {S : Nat} (hS : base ≤ S) (h : RowAt w S stL) : Calls Tryz.prog 6 #[.agg #[.int .i64 0, .slice none 0 0, .int .i64 12, .slice none 0 0, .slice none 0 0, .int .i64 0, .int .i64 0, .int .i64 0, .slice none 0 0, .int .i64 0, .slice (some ⟨S, 0, none⟩) 1 1, .int .i64 0]] w fun e w' => ∃ c s cap, e = .returned (.tuple #[.slice (some ⟨c, s, none⟩) 18 cap, .int .i64 0]) ∧ 18 ≤ cap ∧ ObAt w' c (cap, s) yB ∧ (w.heap.size ≤ c ∨ c = S) ∧ Mov [S] w w' := by
  obtain ⟨c0, hc0⟩ : ∃ c, Tryz.f6.body = some c := Option.isSome_iff_exists.1 (by kernel_rfl)
  refine (blks_call (C := cfg0) call0 Tryz.func6 (by kernel_rfl) hc0 (l := [(S, (0, 0), cellsL 0 .nilP stM)]) ran_foot hL (gE_lt h0) hbw (by simp) (fun p hp => ?_) (vs := [.agg #[.int .i64 0, .slice none 0 0, .int .i64 12, .slice none 0 0, .slice none 0 0, .int .i64 0, .int .i64 0, .int .i64 0, .slice none 0 0, .int .i64 0, .slice (some ⟨S, 0, none⟩) 1 1, .int .i64 0]]) (.cons (VR.agg' (.cons (.int _ _) (.cons .nilS (.cons (.int _ _) (.cons .nilS (.cons .nilS (.cons (.int _ _) (.cons (.int _ _) (.cons (.int _ _) (.cons .nilS (.cons (.int _ _) (.cons (.sl 0 0 1 _ S 1 rfl (Nat.le_refl _) (fun m hm => by cases hm; rfl) (fun h => by cases h)) (.cons (.int _ _) .nil))))))))))))) .nil) (by kernel_rfl)).mono ?_
  · obtain rfl := List.mem_singleton.1 hp
    exact ⟨hS, lit_st, h.obAt rfl⟩
  rintro e w' ⟨v, ν', rfl, hv, hb, ho, hnew, hk, hs, h1, h2, h3, hij⟩
  obtain ⟨c, s, cap, rfl, q1, q2, q3⟩ := tup_sl hv
  have := ho (148, yB) (by simp) c q1
  rw [q2] at this
  exact ⟨c, s, cap, rfl, q3, this, (by
    rcases hnew 148 c (by simp) q1 with h | ⟨p, hp, e⟩
    · exact .inl h
    · obtain rfl := List.mem_singleton.1 hp
      exact .inr e.symm), .of (fun k hk' hn => hk k hk' fun p hp e => hn (by obtain rfl := List.mem_singleton.1 hp; simpa using e.symm)) hs h1 h2 h3⟩
theorem chunk_calls {c s cap : Nat} (hc : base ≤ c) (hcap : 18 ≤ cap) (h : ObAt w c (cap, s) yB) : Calls Tryz.prog 19 #[.slice (some ⟨c, s, none⟩) 18 cap, .int .i64 0, .int .i64 64] w fun e w' => ∃ c' s' cap', e = .returned (.tuple #[.slice (some ⟨c', s', none⟩) 18 cap', .int .i64 0]) ∧ 18 ≤ cap' ∧ ObAt w' c' (cap', s') yB ∧ (w.heap.size ≤ c' ∨ c' = c) ∧ Mov [c] w w' := by
  obtain ⟨c0, hc0⟩ : ∃ c, Tryz.f19.body = some c := Option.isSome_iff_exists.1 (by kernel_rfl)
  have hsl : VR (nmG [(c, (cap, s), yB)]) (.sl 0 0 18 none) (.slice (some ⟨c, s, none⟩) 18 cap) := by
    have := VR.sl (ν := nmG [(c, (cap, s), yB)]) 0 0 18 none c cap rfl hcap (fun m hm => by cases hm) (fun _ _ => rfl)
    rwa [Nat.zero_add] at this
  refine (blks_call (C := cfg0) call0 Tryz.func19 (by kernel_rfl) hc0 (l := [(c, (cap, s), yB)]) ran_chunk hL (gE_lt h0) hbw (by simp) (fun p hp => ?_) (vs := [.slice (some ⟨c, s, none⟩) 18 cap, .int .i64 0, .int .i64 64]) (.cons hsl (.cons (.int _ _) (.cons (.int _ _) .nil))) (by kernel_rfl)).mono ?_
  · obtain rfl := List.mem_singleton.1 hp
    exact ⟨hc, lit_y, h⟩
  rintro e w' ⟨v, ν', rfl, hv, hb, ho, hnew, hk, hs, h1, h2, h3, hij⟩
  obtain ⟨c', s', cap', rfl, q1, q2, q3⟩ := tup_sl hv
  have := ho (2, yB) (by simp) c' q1
  rw [q2] at this
  exact ⟨c', s', cap', rfl, q3, this, (by
    rcases hnew 2 c' (by simp) q1 with h | ⟨p, hp, e⟩
    · exact .inl h
    · obtain rfl := List.mem_singleton.1 hp
      exact .inr e.symm), .of (fun k hk' hn => hk k hk' fun p hp e => hn (by obtain rfl := List.mem_singleton.1 hp; simpa using e.symm)) hs h1 h2 h3⟩
theorem postE_calls : Calls Tryz.prog 20 #[.agg #[.int .i64 18, .int .i64 0, .int .i64 0, .int .i64 0]] w fun e w' => ∃ c s cap, e = .returned (.tuple #[.slice (some ⟨c, s, none⟩) 21 cap, .int .i64 0]) ∧ 21 ≤ cap ∧ ObAt w' c (cap, s) zB ∧ w.heap.size ≤ c ∧ Mov [] w w' := by
  obtain ⟨c0, hc0⟩ : ∃ c, Tryz.f20.body = some c := Option.isSome_iff_exists.1 (by kernel_rfl)
  refine (blks_call (C := cfg0) call0 Tryz.func20 (by kernel_rfl) hc0 (l := []) ran_post hL (gE_lt h0) hbw (by simp) (fun p hp => by simp at hp) (vs := [.agg #[.int .i64 18, .int .i64 0, .int .i64 0, .int .i64 0]]) (.cons (vr_toV rfl) .nil) (by kernel_rfl)).mono ?_
  rintro e w' ⟨v, ν', rfl, hv, hb, ho, hnew, hk, hs, h1, h2, h3, hij⟩
  obtain ⟨c', s', cap', rfl, q1, q2, q3⟩ := tup_sl hv
  have := ho (36, zB) (by simp) c' q1
  rw [q2] at this
  exact ⟨c', s', cap', rfl, q3, this, (by
    rcases hnew 36 c' (by simp) q1 with h | ⟨p, hp, e⟩
    · exact h
    · simp at hp), .of (fun k hk' hn => hk k hk' fun p hp e => by simp at hp) hs h1 h2 h3⟩
theorem clone_calls {B room off k : Nat} (hB : base ≤ B) (hk' : 21 ≤ k) (h : ObAt w B (room, off) winB) : Calls Tryz.prog 66 #[.slice (some ⟨B, 18 + off, none⟩) 21 k] w fun e w' => ∃ c s cap, e = .returned (.slice (some ⟨c, s, none⟩) 21 cap) ∧ 21 ≤ cap ∧ ObAt w' c (cap, s) zB ∧ w.heap.size ≤ c ∧ c ≠ B ∧ ObAt w' B (room, off) winB ∧ Mov [B] w w' := by
  obtain ⟨c0, hc0⟩ : ∃ c, Tryz.f66.body = some c := Option.isSome_iff_exists.1 (by kernel_rfl)
  refine (blks_call (C := cfg0) call0 Tryz.func66 (by kernel_rfl) hc0 (l := [(B, (room, off), winB)]) ran_clone hL (gE_lt h0) hbw (by simp) (fun p hp => ?_) (vs := [.slice (some ⟨B, 18 + off, none⟩) 21 k]) (.cons (.sl 0 18 21 none B k rfl hk' (fun m hm => by cases hm) (fun _ h => by cases h)) .nil) (by kernel_rfl)).mono ?_
  · obtain rfl := List.mem_singleton.1 hp
    exact ⟨hB, lit_win, h⟩
  rintro e w' ⟨v, ν', rfl, hv, hb, ho, hnew, hk, hs, h1, h2, h3, hij⟩
  cases hv with | sl _ _ _ _ c cap hc hcap hk2 hr =>
  have q1 := ho (2, zB) (by simp) c hc
  have q2 := ho (0, winB) (by simp) B (hb 0 _ rfl).1
  rw [show ν'.rm (0, winB).1 = (room, off) from (hb 0 _ rfl).2] at q2
  have hcB : c ≠ B := fun e => by
    have := hij (2, zB) (by simp) (0, winB) (by simp) c hc (by rw [e]; exact (hb 0 _ rfl).1)
    cases this
  refine ⟨c, (ν'.rm 2).2, cap, by rw [Nat.zero_add], hcap, ?_, ?_, hcB, q2, .of (fun k hk' hn => hk k hk' fun p hp e => hn (by obtain rfl := List.mem_singleton.1 hp; simpa using e.symm)) hs h1 h2 h3⟩
  · rw [hr rfl rfl]; exact q1
  · rcases hnew 2 c (by simp) hc with h | ⟨p, hp, e⟩
    · exact h
    · obtain rfl := List.mem_singleton.1 hp
      exact absurd e.symm hcB
theorem clip_calls {c s cap : Nat} (hc : base ≤ c) (hcap : 21 ≤ cap) (h : ObAt w c (cap, s) zB) : Calls Tryz.prog 32 #[.slice (some ⟨c, s, none⟩) 21 cap] w fun e w' => e = .returned (.slice (some ⟨c, s, none⟩) 21 21) ∧ ObAt w' c (cap, s) zB ∧ Mov [c] w w' := by
  obtain ⟨c0, hc0⟩ : ∃ c, Tryz.f32.body = some c := Option.isSome_iff_exists.1 (by kernel_rfl)
  have hsl : VR (nmG [(c, (cap, s), zB)]) (.sl 0 0 21 none) (.slice (some ⟨c, s, none⟩) 21 cap) := by
    have := VR.sl (ν := nmG [(c, (cap, s), zB)]) 0 0 21 none c cap rfl hcap (fun m hm => by cases hm) (fun _ _ => rfl)
    rwa [Nat.zero_add] at this
  refine (blks_call (C := cfg0) call0 Tryz.func32 (by kernel_rfl) hc0 (l := [(c, (cap, s), zB)]) ran_clip hL (gE_lt h0) hbw (by simp) (fun p hp => ?_) (vs := [.slice (some ⟨c, s, none⟩) 21 cap]) (.cons hsl .nil) (by kernel_rfl)).mono ?_
  · obtain rfl := List.mem_singleton.1 hp
    exact ⟨hc, lit_z, h⟩
  rintro e w' ⟨v, ν', rfl, hv, hb, ho, hnew, hk, hs, h1, h2, h3, hij⟩
  obtain ⟨b1, b2⟩ := hb 0 _ rfl
  cases hv with | sl _ _ _ _ c2 cap2 hc2 hcap2 hk2 hr =>
  obtain rfl : c2 = c := Option.some.inj (hc2.symm.trans b1)
  have q1 := ho (0, zB) (by simp) c2 hc2
  rw [show ν'.rm (0, zB).1 = (cap, s) from b2] at q1
  refine ⟨?_, q1, .of (fun k hk' hn => hk k hk' fun p hp e => hn (by obtain rfl := List.mem_singleton.1 hp; simpa using e.symm)) hs h1 h2 h3⟩
  rw [b2, hk2 21 rfl, Nat.zero_add]
theorem postD_calls {c s cap : Nat} (hc : base ≤ c) (h : ObAt w c (cap, s) zB) : Calls Tryz.prog 44 #[.slice (some ⟨c, s, none⟩) 21 21] w fun e w' => e = .returned (.tuple #[.agg #[.int .i64 18, .int .i64 0, .int .i64 0, .int .i64 0], .int .i64 0]) ∧ Mov [c] w w' := by
  obtain ⟨c0, hc0⟩ : ∃ c, Tryz.f44.body = some c := Option.isSome_iff_exists.1 (by kernel_rfl)
  have hsl : VR (nmG [(c, (cap, s), zB)]) (.sl 0 0 21 (some 21)) (.slice (some ⟨c, s, none⟩) 21 21) := by
    have := VR.sl (ν := nmG [(c, (cap, s), zB)]) 0 0 21 (some 21) c 21 rfl (Nat.le_refl _) (fun m hm => by cases hm; rfl) (fun h => by cases h)
    rwa [Nat.zero_add] at this
  refine (blks_call (C := cfg0) call0 Tryz.func44 (by kernel_rfl) hc0 (l := [(c, (cap, s), zB)]) ran_postd hL (gE_lt h0) hbw (by simp) (fun p hp => ?_) (vs := [.slice (some ⟨c, s, none⟩) 21 21]) (.cons hsl .nil) (by kernel_rfl)).mono ?_
  · obtain rfl := List.mem_singleton.1 hp
    exact ⟨hc, lit_z, h⟩
  rintro e w' ⟨v, ν', rfl, hv, hb, ho, hnew, hk, hs, h1, h2, h3, hij⟩
  obtain ⟨vs, rfl, h⟩ := hv.tup_inv
  have e1 := h.toVs (us := [.agg #[.int .i64 18, .int .i64 0, .int .i64 0, .int .i64 0], .int .i64 0]) rfl
  subst e1
  exact ⟨rfl, .of (fun k hk' hn => hk k hk' fun p hp e => hn (by obtain rfl := List.mem_singleton.1 hp; simpa using e.symm)) hs h1 h2 h3⟩
theorem footer_calls {B room off : Nat} (hB : base ≤ B) (hr : 18 ≤ room) (h : ObAt w B (room, off) winB) : Calls Tryz.prog 23 #[.slice (some ⟨B, off, none⟩) 18 room, .agg #[.int .i64 18, .int .i64 0, .int .i64 0, .int .i64 0]] w fun e w' => ∃ (P : Addr), e = .returned (.tuple #[.agg #[.int .i64 0, .slice none 0 0, .int .i64 12, .slice none 0 0, .slice none 0 0, .int .i64 0, .int .i64 0, .int .i64 0, .slice none 0 0, .int .i64 0, .slice (some P) 1 1, .int .i64 0], .int .i64 0]) ∧ Mov [B] w w' := by
  obtain ⟨c0, hc0⟩ : ∃ c, Tryz.f23.body = some c := Option.isSome_iff_exists.1 (by kernel_rfl)
  have hsl : VR (nmG [(B, (room, off), winB)]) (.sl 0 0 18 none) (.slice (some ⟨B, off, none⟩) 18 room) := by
    have := VR.sl (ν := nmG [(B, (room, off), winB)]) 0 0 18 none B room rfl hr (fun m hm => by cases hm) (fun _ _ => rfl)
    rwa [Nat.zero_add] at this
  refine (blks_call (C := cfg0) call0 Tryz.func23 (by kernel_rfl) hc0 (l := [(B, (room, off), winB)]) ran_footer hL (gE_lt h0) hbw (by simp) (fun p hp => ?_) (vs := [.slice (some ⟨B, off, none⟩) 18 room, .agg #[.int .i64 18, .int .i64 0, .int .i64 0, .int .i64 0]]) (.cons hsl (.cons (vr_toV rfl) .nil)) (by kernel_rfl)).mono ?_
  · obtain rfl := List.mem_singleton.1 hp
    exact ⟨hB, lit_win, h⟩
  rintro e w' ⟨v, ν', rfl, hv, hb, ho, hnew, hk, hs, h1, h2, h3, hij⟩
  obtain ⟨vs, rfl, hh⟩ := hv.tup_inv
  obtain ⟨u, r, rfl, g1, g2⟩ := hh.inv_cons
  obtain ⟨u', r', rfl, g3, g4⟩ := g2.inv_cons
  obtain rfl := g4.inv_nil
  cases g3
  obtain ⟨vs, rfl, ha⟩ := g1.agg_inv
  match vs, ha with
  | [v0, v1, v2, v3, v4, v5, v6, v7, v8, v9, v10, v11], ha =>
    have key : ∀ (i : Nat) x v u, [M.int .i64 0, .nilS, .int .i64 12, .nilS, .nilS, .int .i64 0, .int .i64 0, .int .i64 0, .nilS, .int .i64 0, .sl 273 0 1 (some 1), .int .i64 0][i]? = some x → [v0, v1, v2, v3, v4, v5, v6, v7, v8, v9, v10, v11][i]? = some v → Me.toV x = some u → v = u := fun i x v u e1 e2 e3 => (ha.2 i x v e1 e2).toV e3
    have k0 := key 0 _ _ _ rfl rfl rfl
    have k1 := key 1 _ _ _ rfl rfl rfl
    have k2 := key 2 _ _ _ rfl rfl rfl
    have k3 := key 3 _ _ _ rfl rfl rfl
    have k4 := key 4 _ _ _ rfl rfl rfl
    have k5 := key 5 _ _ _ rfl rfl rfl
    have k6 := key 6 _ _ _ rfl rfl rfl
    have k7 := key 7 _ _ _ rfl rfl rfl
    have k8 := key 8 _ _ _ rfl rfl rfl
    have k9 := key 9 _ _ _ rfl rfl rfl
    have k11 := key 11 _ _ _ rfl rfl rfl
    have k10 := ha.2 10 _ v10 rfl rfl
    subst k0; subst k1; subst k2; subst k3; subst k4; subst k5; subst k6; subst k7; subst k8; subst k9; subst k11
    cases k10 with | sl _ _ _ _ cP capP hcP hcapP hkP hrP =>
    have h1P := hkP 1 rfl
    subst h1P
    exact ⟨_, rfl, .of (fun k hk' hn => hk k hk' fun p hp e => hn (by obtain rfl := List.mem_singleton.1 hp; simpa using e.symm)) hs h1 h2 h3⟩
abbrev fltL (s : List UInt8) (i g : Nat) : List Value := [.string ⟨s.toArray⟩, .int .i64 (Int.ofNat i), .iface 84 (.int .i64 (Int.ofNat g))]
abbrev prtL (s : List UInt8) (i : Nat) : List Value := [.string ⟨s.toArray⟩, .int .i64 (Int.ofNat i), .int .i64 0]
theorem tells_calls (s : List UInt8) (i g : Nat) (hb : tellsB s i g = true) (F P : Nat) (hF : base ≤ F) (hP : base ≤ P) (hne : F ≠ P) (r1 : RowAt w F (fltL s i g)) (r2 : RowAt w P (prtL s i)) :
    Calls Tryz.prog 9 #[.iface 95 (.pointer (some ⟨F, 0, none⟩)), .slice (some ⟨P, 0, none⟩) 1 1, .int .i64 (Int.ofNat g)] w fun e w' => e = .returned (.bool true) ∧ Mov [F, P] w w' := by
  obtain ⟨c0, hc0⟩ : ∃ c, Tryz.f9.body = some c := Option.isSome_iff_exists.1 (by kernel_rfl)
  refine (rows_call (C := cfg0) call0 Tryz.func9 (by kernel_rfl) hc0 hb (base := base) (cs := [F, P]) (vs := [.iface 95 (.pointer (some ⟨F, 0, none⟩)), .slice (some ⟨P, 0, none⟩) 1 1, .int .i64 (Int.ofNat g)]) hL (gE_lt h0) hbw (by simp [hne]) rfl (fun b c xs h1 h2 => ?_) (.cons (.ifc _ _ _ (.ptr 0 0 F rfl)) (.cons (.sl 1 0 1 _ P 1 rfl (Nat.le_refl _) (fun m hm => by cases hm; rfl) (fun h => by cases h)) (.cons (.int _ _) .nil)))).mono ?_
  · match b, h1, h2 with
    | 0, h1, h2 => cases h1; cases h2; exact ⟨hF, _, r1, vr_toVs rfl⟩
    | 1, h1, h2 => cases h1; cases h2; exact ⟨hP, _, r2, vr_toVs rfl⟩
    | b + 2, h1, h2 => simp at h1
  rintro e w' ⟨v, ν', rfl, hv, hn, hr, hk, hs, h1, h2, h3⟩
  cases hv
  exact ⟨rfl, .of hk hs h1 h2 h3⟩
end
end Go.Proofs.YtplmdlobbfcknaaGreatDoor
