/- TailBegins: a file's end, put behind its bytes by the document. Own work. -/
import Derived.Test.YtplmdlobbfcknaaGreatDoorTbB
namespace Go.Proofs.YtplmdlobbfcknaaGreatDoor
open Go Go.RowKit Go.Me
set_option linter.unusedVariables false
set_option linter.unusedSimpArgs false
set_option maxRecDepth 100000

abbrev yV : List Value := [.int .u8 8, .int .u8 3, .int .u8 16, .int .u8 0, .int .u8 34, .int .u8 2, .int .u8 8, .int .u8 12, .int .u8 48, .int .u8 0, .int .u8 58, .int .u8 4, .int .u8 8, .int .u8 0, .int .u8 80, .int .u8 0, .int .u8 64, .int .u8 0]
abbrev zV : List Value := [.int .u8 8, .int .u8 18, .int .u8 16, .int .u8 0, .int .u8 24, .int .u8 0, .int .u8 34, .int .u8 2, .int .u8 0, .int .u8 12, .int .u8 40, .int .u8 0, .int .u8 48, .int .u8 1, .int .u8 130, .int .u8 244, .int .u8 3, .int .u8 3, .int .u8 79, .int .u8 82, .int .u8 67]
abbrev winV : List Value := [.int .u8 8, .int .u8 3, .int .u8 16, .int .u8 0, .int .u8 34, .int .u8 2, .int .u8 8, .int .u8 12, .int .u8 48, .int .u8 0, .int .u8 58, .int .u8 4, .int .u8 8, .int .u8 0, .int .u8 80, .int .u8 0, .int .u8 64, .int .u8 0, .int .u8 8, .int .u8 18, .int .u8 16, .int .u8 0, .int .u8 24, .int .u8 0, .int .u8 34, .int .u8 2, .int .u8 0, .int .u8 12, .int .u8 40, .int .u8 0, .int .u8 48, .int .u8 1, .int .u8 130, .int .u8 244, .int .u8 3, .int .u8 3, .int .u8 79, .int .u8 82, .int .u8 67, .int .u8 21]
def bytesM (l : List Nat) : List M := l.map fun n => .int .u8 (Int.ofNat n)
theorem y_eq : yB = cellsL 1 .nilP (bytesM [8, 3, 16, 0, 34, 2, 8, 12, 48, 0, 58, 4, 8, 0, 80, 0, 64, 0]) := by kernel_rfl
theorem z_eq : zB = cellsL 1 .nilP (bytesM [8, 18, 16, 0, 24, 0, 34, 2, 0, 12, 40, 0, 48, 1, 130, 244, 3, 3, 79, 82, 67]) := by kernel_rfl
theorem win_eq : winB = cellsL 1 .nilP (bytesM [8, 3, 16, 0, 34, 2, 8, 12, 48, 0, 58, 4, 8, 0, 80, 0, 64, 0, 8, 18, 16, 0, 24, 0, 34, 2, 0, 12, 40, 0, 48, 1, 130, 244, 3, 3, 79, 82, 67, 21]) := by kernel_rfl
/-- what is copied out of a block of literals -/
theorem ObAt.news {w : World} {c s cap : Nat} {xs : List M} {us : List Value} (h : ObAt w c (cap, s) (cellsL 1 .nilP xs)) (hx : Me.toVs xs = some us) : ∀ j u, us[j]? = some u → w.cell? ((⟨c, s, none⟩ : Addr).add j) = some u := fun j u hu => by
  have hl : xs.length = us.length := (vr_toVs (ν := Nm.none) hx).1
  have hj : j < xs.length := by rw [hl]; exact (List.getElem?_eq_some_iff.1 hu).1
  obtain ⟨u', q1, q2⟩ := toVs_get hx j _ (List.getElem?_eq_getElem hj)
  rw [hu] at q1
  cases q1
  have := h.cell (cellsL_at' (List.getElem?_eq_getElem hj)) q2
  rw [add_none, Nat.add_comm s j]
  exact this
theorem Mov.own {X : List Nat} {a b : World} (h : Mov X a b) {base e z n : Nat} {v : Value} {xs : List Value} (k : a.ownsRow base e z v n xs) (hX : ∀ g, v.ownBlock = some g → g ∉ X) : b.ownsRow base e z v n xs := by
  obtain ⟨h1, h2⟩ := k
  refine ⟨h1, ?_⟩
  rcases h2 with h2 | ⟨g, cap, cur, e, hb, hg, rest⟩
  · exact .inl h2
  · exact .inr ⟨g, cap, cur, e, hb, (h.block g (Array.getElem?_eq_some_iff.1 hg).1 (hX g (by rw [e]; rfl))).trans hg, rest⟩
theorem World.ownsRow.mono0 {w : World} {base e z n : Nat} {v : Value} {xs : List Value} (k : w.ownsRow base e z v n xs) : w.ownsRow base e z v n xs := k
/-- boxes of any cells -/
structure BoxN (w : World) (t g : Nat) (cs : List Value) : Prop where
  row : w.heap[g]? = some (.cells cs.toArray t)
theorem BoxN.lt {w : World} {t g : Nat} {cs : List Value} (h : BoxN w t g cs) : g < w.heap.size := (Array.getElem?_eq_some_iff.1 h.row).1
theorem BoxN.same {w w' : World} {t g : Nat} {cs : List Value} (h : BoxN w t g cs) (k : w'.heap[g]? = w.heap[g]?) : BoxN w' t g cs := ⟨k.trans h.row⟩
theorem BoxN.mov {X : List Nat} {w w' : World} {t g : Nat} {cs : List Value} (h : BoxN w t g cs) (m : Mov X w w') (hX : g ∉ X) : BoxN w' t g cs := h.same (m.block g h.lt hX)
theorem BoxN.cell {w : World} {t g : Nat} {cs : List Value} (h : BoxN w t g cs) (j : Nat) : w.cell? ⟨g, j, none⟩ = cs[j]? := by simp [World.cell?, h.row]

/-- what is neither the rows' block nor S stands as it stood -/
def Far (w : World) (S : Nat) (rs : Value) (w' : World) : Prop := ∀ k, k < w.heap.size → k ≠ S → rs.ownBlock ≠ some k → w'.heap[k]? = w.heap[k]?
set_option maxHeartbeats 4000000 in
theorem close_calls (S n base : Nat) (rs : Value) (xs : List Value) (w : World) (hL : Laid cfg0 w) (h0 : 0 < base) (hbw : base ≤ w.heap.size) (hS : base ≤ S) (hst : RowAt w S stL) (hrow : w.ownsRow base 5 1 rs n xs) (hSr : rs.ownBlock ≠ some S) (hn : n ≤ 400) :
    Calls Tryz.prog 7 #[rs, .agg #[.int .i64 0, .slice none 0 0, .int .i64 12, .slice none 0 0, .slice none 0 0, .int .i64 0, .int .i64 0, .int .i64 0, .slice none 0 0, .int .i64 0, .slice (some ⟨S, 0, none⟩) 1 1, .int .i64 0], .agg #[.int .i64 0, .int .i64 64, .int .i64 0, .int .i64 0, .int .i64 0, .int .i64 0]] w fun e w' => ∃ v', e = .returned v' ∧ w'.ownsRow base 5 1 v' (n + 40) (xs ++ winV) ∧ Below base w w' ∧ Far w S rs w' := by
  obtain ⟨i5, hi5, hz0, hz1, hz2⟩ := info_parts (P := Tryz.prog) (e := 5) (z := .int .u8 0) (size := 1) (bytes := 1) (by kernel_rfl)
  have hSw : S < w.heap.size := hst.lt
  have g2 : w.grownBy ((w.alloc (.cells #[.int .i64 0, .slice none 0 0, .int .i64 12, .slice none 0 0, .slice none 0 0, .int .i64 0, .int .i64 0, .int .i64 0, .slice none 0 0, .int .i64 0, .slice (some ⟨S, 0, none⟩) 1 1, .int .i64 0] 37)).alloc (.cells #[.int .i64 0, .int .i64 64, .int .i64 0, .int .i64 0, .int .i64 0, .int .i64 0] 42)) none := grown_alloc (World.grownBy_alloc _ _ _) _
  have hrb : ∀ g, rs.ownBlock = some g → g < w.heap.size := fun g hg => (hrow.lt g hg).2
  obtain ⟨wa, hwa⟩ : ∃ wa, (w.alloc (.cells #[.int .i64 0, .slice none 0 0, .int .i64 12, .slice none 0 0, .slice none 0 0, .int .i64 0, .int .i64 0, .int .i64 0, .slice none 0 0, .int .i64 0, .slice (some ⟨S, 0, none⟩) 1 1, .int .i64 0] 37)).alloc (.cells #[.int .i64 0, .int .i64 64, .int .i64 0, .int .i64 0, .int .i64 0, .int .i64 0] 42) = wa := ⟨_, rfl⟩
  have bF : BoxN wa 37 w.heap.size [.int .i64 0, .slice none 0 0, .int .i64 12, .slice none 0 0, .slice none 0 0, .int .i64 0, .int .i64 0, .int .i64 0, .slice none 0 0, .int .i64 0, .slice (some ⟨S, 0, none⟩) 1 1, .int .i64 0] := ⟨by rw [← hwa, Below.heap_alloc _ _ _ (by simp)]; exact World.alloc_heap_new _ _⟩
  have bO : BoxN wa 42 (w.heap.size + 1) [.int .i64 0, .int .i64 64, .int .i64 0, .int .i64 0, .int .i64 0, .int .i64 0] := ⟨by
    rw [← hwa]
    have := World.alloc_heap_new (w.alloc (.cells #[.int .i64 0, .slice none 0 0, .int .i64 12, .slice none 0 0, .slice none 0 0, .int .i64 0, .int .i64 0, .int .i64 0, .slice none 0 0, .int .i64 0, .slice (some ⟨S, 0, none⟩) 1 1, .int .i64 0] 37)) (.cells #[.int .i64 0, .int .i64 64, .int .i64 0, .int .i64 0, .int .i64 0, .int .i64 0] 42)
    simpa using this⟩
  have sza : wa.heap.size = w.heap.size + 2 := by rw [← hwa]; simp
  rw [hwa] at g2
  have rowa := hrow.kept g2 (by cases rs.ownBlock <;> simp)
  have sta := hst.same (g2.block S hSw (by simp))
  have La : Laid cfg0 wa := laid_to hL (by omega) (grown_below g2)
  have fc := foot_calls La h0 (by omega) hS sta
  have Ba : Below base w wa := (grown_below g2).mono hbw
  have f0 := bF.cell 0
  have f1 := bF.cell 1
  have f2 := bF.cell 2
  have f3 := bF.cell 3
  have f4 := bF.cell 4
  have f5 := bF.cell 5
  have f6 := bF.cell 6
  have f7 := bF.cell 7
  have f8 := bF.cell 8
  have f9 := bF.cell 9
  have f10 := bF.cell 10
  have f11 := bF.cell 11
  simp only [List.getElem?_cons_succ, List.getElem?_cons_zero] at f0 f1 f2 f3 f4 f5 f6 f7 f8 f9 f10 f11
  replace fc : Aside _ := fc
  have Na : Aside (∀ k, k < w.heap.size → wa.heap[k]? = w.heap[k]?) := fun k hk => g2.block k hk (by simp)
  replace Ba : Aside _ := Ba
  replace La : Aside _ := La
  replace bO : Aside _ := bO
  replace rowa : Aside _ := rowa
  replace sza : Aside _ := sza
  replace hrb : Aside _ := hrb
  replace hSr : Aside _ := hSr
  replace hSw : Aside _ := hSw
  replace h0 : Aside _ := h0
  replace hbw : Aside _ := hbw
  replace hn : Aside _ := hn
  replace hS : Aside _ := hS
  clear hst hL hrow sta bF g2
  go_enter Tryz.func7, Tryz.ntmps7
  go_wp2_with (first
    | (go_at_call 6; go_must (
        refine Calls.mono fc.out ?_; rintro e' w1 ⟨c1, s1, p1, rfl, hp1, ho1, hc1, m1⟩
        have z1 := sza.out
        have q1 := hSw.out
        have q2 := hS.out
        have q3 := hbw.out
        have bO1 := bO.out.mov m1 (by simp; omega)
        have o0 := bO1.cell 0
        have o1 := bO1.cell 1
        simp only [List.getElem?_cons_succ, List.getElem?_cons_zero] at o0 o1
        have B1 : Below base w w1 := Ba.out.trans (m1.below (by omega) (by simp; omega))
        have r1 := m1.own (World.ownsRow.mono0 rowa.out) (fun g hg => by have := hrb.out g hg; have := hSr.out; simp; intro e; exact this (e ▸ hg))
        have L1 : Laid cfg0 w1 := laid_to La.out h0.out (m1.below (by omega) (by simp; omega))
        have k1 : c1 ≠ w.heap.size + 1 ∧ base ≤ c1 ∧ (c1 = S ∨ w.heap.size + 2 ≤ c1) := by rcases hc1 with h | h <;> exact ⟨by omega, by omega, by omega⟩
        have cc := chunk_calls L1 h0.out (by have := m1.size; omega) k1.2.1 hp1 ho1
        have N1 : Aside (Far w S rs w1) := fun k hk hS' hr => (m1.block k (by omega) (by simpa using hS')).trans (Na.out k hk)
        replace bO1 : Aside _ := bO1
        replace B1 : Aside _ := B1
        replace r1 : Aside _ := r1
        replace L1 : Aside _ := L1
        replace k1 : Aside _ := k1
        replace cc : Aside _ := cc
        have y1 : Aside (w.heap.size + 2 ≤ w1.heap.size) := by have := m1.size; exact (by omega : w.heap.size + 2 ≤ w1.heap.size)
        clear hc1 m1 ho1 hp1 q1 q2 q3 z1 bO rowa fc Ba La Na))
    | (go_at_call 19; go_must (
        refine Calls.mono cc.out ?_; rintro e' w2 ⟨c2, s2, p2, rfl, hp2, ho2, hc2, m2⟩
        obtain ⟨k1a, k1b, k1c⟩ := k1.out
        have q1 := hSw.out
        have q2 := hbw.out
        have q3 := y1.out
        have q4 := m2.size
        have bO2 := (bO1.out.mov m2 (by simp; omega)).same (Below.heap_alloc w2 (.cells #[.int .i64 18, .int .i64 0, .int .i64 0, .int .i64 0] 82) _ (by have := (bO1.out.mov m2 (by simp; omega)).lt; exact this))
        clear o0 o1
        have o0 := bO2.cell 0
        have o1 := bO2.cell 1
        have n0 := (bO1.out.mov m2 (by simp; omega)).cell 0
        simp only [List.getElem?_cons_succ, List.getElem?_cons_zero] at o0 o1 n0
        have B2 : Below base w (w2.alloc (.cells #[.int .i64 18, .int .i64 0, .int .i64 0, .int .i64 0] 82)) := (B1.out.trans (m2.below (by omega) (by simp; omega))).alloc (by omega) _
        have N2 : Aside (Far w S rs (w2.alloc (.cells #[.int .i64 18, .int .i64 0, .int .i64 0, .int .i64 0] 82))) := fun k hk hS' hr => (Below.heap_alloc w2 _ k (by omega)).trans ((m2.block k (by omega) (by simp; rcases k1c with h | h <;> omega)).trans (N1.out k hk hS' hr))
        have r2 := (m2.own r1.out (fun g hg => by have := hrb.out g hg; have h2 := hSr.out; simp; intro e; rcases k1c with h | h; exact h2 (by rw [hg, e, h]); omega)).alloc (.cells #[.int .i64 18, .int .i64 0, .int .i64 0, .int .i64 0] 82)
        have L2 : Laid cfg0 (w2.alloc (.cells #[.int .i64 18, .int .i64 0, .int .i64 0, .int .i64 0] 82)) := laid_to L1.out h0.out ((m2.below (by omega) (by simp; omega)).alloc (by omega) _)
        have pc := postE_calls L2 h0.out (by simp; omega)
        have ho2' := ho2.same (Below.heap_alloc w2 (.cells #[.int .i64 18, .int .i64 0, .int .i64 0, .int .i64 0] 82) c2 ho2.lt)
        replace B2 : Aside _ := B2
        replace r2 : Aside _ := r2
        replace pc : Aside _ := pc
        replace ho2' : Aside _ := ho2'
        have y2 : Aside (w.heap.size + 2 ≤ w2.heap.size) := (by omega : w.heap.size + 2 ≤ w2.heap.size)
        clear hc2 m2 ho2 q1 q2 q3 q4 k1a k1b k1c k1 bO1 B1 r1 L1 cc y1 L2 bO2 N1))
    | (go_at_call 20; go_must (
        refine Calls.mono pc.out ?_; rintro e' w3 ⟨c3, s3, p3, rfl, hp3, ho3, hc3, m3⟩
        have q2 := hbw.out
        have q3 := y2.out
        have q4 := m3.size
        simp at q4 hc3
        have B3 : Below base w w3 := B2.out.trans (m3.below (by simp; omega) (by simp))
        have N3 : Aside (Far w S rs w3) := fun k hk hS' hr => (m3.block k (by simp; omega) (by simp)).trans (N2.out k hk hS' hr)
        have y3 : Aside (w.heap.size ≤ w3.heap.size) := (by omega : w.heap.size ≤ w3.heap.size)
        have r3 := m3.own r2.out (fun g hg => by simp)
        have hy3 := ObAt.same ho2'.out (m3.block c2 (ObAt.lt ho2'.out) (by simp))
        have b3 : base ≤ w3.heap.size := by omega
        have own3 : ∀ g, rs.ownBlock = some g → g < c3 := fun g hg => by have := hrb.out g hg; omega
        replace own3 : Aside _ := own3
        replace hy3 : Aside _ := hy3
        replace ho3 : Aside _ := ho3
        replace r3 : Aside _ := r3
        replace B3 : Aside _ := B3
        replace b3 : Aside _ := b3
        clear hc3 m3 q2 q3 q4 B2 r2 pc ho2' y2 o0 o1 n0 N2))
    | (at_builtin; have key := hy3; go_must (
        clear key
        have hno := hn.out
        refine wpList_append_own_at _ rfl _ _ 22 rfl base 5 i5 _ 1 1 rfl hi5 hz0 hz1 hz2 rfl (by decide) _ _ _ rfl r3.out ⟨c2, s2, none⟩ 18 p2 yV rfl rfl (ObAt.news (xs := bytesM [8, 3, 16, 0, 34, 2, 8, 12, 48, 0, 58, 4, 8, 0, 80, 0, 64, 0]) (y_eq ▸ hy3.out) rfl) (by simp [Value.oneCell']) (by unfold maxLen; omega) (by omega) b3.out ?_
        intro v4 w4 hown4 hgrow4 hnil4 hloc4
        have ho4 := ObAt.same ho3.out (hgrow4.block c3 (ObAt.lt ho3.out) (fun e => by have := own3.out c3 e.symm; omega))
        have B4 : Below base w w4 := B3.out.grown hgrow4 b3.out (fun k hk => (World.ownsRow.lt r3.out k hk).1)
        have b4 : base ≤ w4.heap.size := Nat.le_trans b3.out hgrow4.size
        have N4 : Aside (Far w S rs w4) := fun k hk hS' hr => (hgrow4.block k (Nat.lt_of_lt_of_le hk y3.out) (Ne.symm hr)).trans (N3.out k hk hS' hr)
        have y4 : Aside (w.heap.size ≤ w4.heap.size) := Nat.le_trans y3.out hgrow4.size
        have R4 : Aside (∀ k, k < w.heap.size → rs.ownBlock ≠ some k → v4.ownBlock ≠ some k) := fun k hk hr e => by
          have q := y3.out
          rcases hloc4 with h | h
          · exact hr (h ▸ e)
          · rw [h] at e; cases e; omega
        replace ho4 : Aside _ := ho4
        replace B4 : Aside _ := B4
        replace b4 : Aside _ := b4
        replace hown4 : Aside _ := hown4
        clear hno hgrow4 hnil4 hloc4 B3 r3 hy3 ho3 b3 own3 N3 y3))
    | (at_builtin; have key := ho4; go_must (
        clear key
        have hno := hn.out
        refine wpList_append_own_at _ rfl _ _ 22 rfl base 5 i5 _ 1 1 rfl hi5 hz0 hz1 hz2 rfl (by decide) _ _ _ rfl hown4.out ⟨c3, s3, none⟩ 21 p3 zV rfl rfl (ObAt.news (xs := bytesM [8, 18, 16, 0, 24, 0, 34, 2, 0, 12, 40, 0, 48, 1, 130, 244, 3, 3, 79, 82, 67]) (z_eq ▸ ho4.out) rfl) (by simp [Value.oneCell']) (by unfold maxLen; omega) (by omega) b4.out ?_
        intro v5 w5 hown5 hgrow5 hnil5 hloc5
        have B5 : Below base w w5 := B4.out.grown hgrow5 b4.out (fun k hk => (World.ownsRow.lt hown4.out k hk).1)
        have b5 : base ≤ w5.heap.size := Nat.le_trans b4.out hgrow5.size
        have N5 : Aside (Far w S rs w5) := fun k hk hS' hr => (hgrow5.block k (Nat.lt_of_lt_of_le hk y4.out) (Ne.symm (R4.out k hk hr))).trans (N4.out k hk hS' hr)
        have y5 : Aside (w.heap.size ≤ w5.heap.size) := Nat.le_trans y4.out hgrow5.size
        have R5 : Aside (∀ k, k < w.heap.size → rs.ownBlock ≠ some k → v5.ownBlock ≠ some k) := fun k hk hr e => by
          have q := y4.out
          rcases hloc5 with h | h
          · exact R4.out k hk hr (h ▸ e)
          · rw [h] at e; cases e; omega
        replace B5 : Aside _ := B5
        replace b5 : Aside _ := b5
        replace hown5 : Aside _ := hown5
        clear hno hgrow5 hnil5 hloc5 B4 b4 ho4 hown4 N4 y4 R4))
    | (at_builtin; have key := hown5; go_must (
        clear key
        have hno := hn.out
        have b5' := b5.out
        refine wpList_append_own_at _ rfl _ _ 22 rfl base 5 i5 _ 1 1 rfl hi5 hz0 hz1 hz2 rfl (by decide) _ _ _ rfl (World.ownsRow.alloc hown5.out _) ⟨w5.heap.size, 0, none⟩ 1 1 [.int .u8 21] rfl rfl (cell_one_new _ _ _) (by simp [Value.oneCell']) (by unfold maxLen; omega) (by omega) (by simp; omega) ?_
        intro v6 w6 hown6 hgrow6 hnil6 hloc6
        have B6 : Below base w w6 := (B5.out.alloc b5' _).grown hgrow6 (by simp; omega) (fun k hk => (World.ownsRow.lt hown5.out k hk).1)
        have N6 : Aside (Far w S rs w6) := fun k hk hS' hr => (hgrow6.block k (by have := y5.out; simp; omega) (Ne.symm (R5.out k hk hr))).trans ((Below.heap_alloc w5 _ k (Nat.lt_of_lt_of_le hk y5.out)).trans (N5.out k hk hS' hr))
        replace B6 : Aside _ := B6
        replace hown6 : Aside _ := hown6
        clear hno b5' hgrow6 hnil6 hloc6 B5 b5 hown5 N5 y5 R5))
    | go_in)
  go_ret
  refine ⟨v6, rfl, ?_, B6.out, N6.out⟩
  have hfin : w6.ownsRow base 5 1 v6 (n + 18 + 21 + 1) (xs ++ yV ++ zV ++ [.int .u8 21]) := hown6.out
  rwa [show n + 18 + 21 + 1 = n + 40 by omega, show xs ++ yV ++ zV ++ [.int .u8 21] = xs ++ winV by simp [List.append_assoc]] at hfin
end Go.Proofs.YtplmdlobbfcknaaGreatDoor
