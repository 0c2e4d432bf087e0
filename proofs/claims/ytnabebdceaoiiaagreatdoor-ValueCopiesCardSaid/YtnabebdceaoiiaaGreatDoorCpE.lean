/- A copy of a value is apart: the function walked. -/
import Derived.Test.YtnabebdceaoiiaaGreatDoorCpD
namespace Go.Proofs.YtnabebdceaoiiaaGreatDoor
open Go Go.Ev Go.RowKit
set_option linter.unusedVariables false
set_option linter.unusedSimpArgs false

theorem bh {W W' : World} {v : Value} {d : D} (h : Rd anyB W v d) (g : W.grownBy W' none) : Rd anyB W' v d :=
  h.mono fun b o u _ hu => ⟨trivial, by rw [ae (g.block b (World.block_lt_of_cell? _ _ hu) (by simp))]; exact hu⟩
theorem eq {W W' : World} (h : ∀ n ob, cfg.gobj n = some ob → HoldsG W n ob) (g : W.grownBy W' none) : ∀ n ob, cfg.gobj n = some ob → HoldsG W' n ob :=
  fun n ob hn => (h n ob hn).heap (g.block n (h n ob hn).lt (by simp))

theorem lw {a w : World} {g o : Nat} {u : Value} (h : a.grownBy w none) (hg : a.heap.size ≤ g) : a.grownBy (w.setCell ⟨g, o, none⟩ u) none :=
  ⟨h.os, h.tape, h.output, by rw [World.size_setCell]; exact h.size, fun b hb _ => (bz w _ _ (by show b ≠ g; omega)).trans (h.block b hb (by simp))⟩
theorem jv {a : World} {g : Nat} (hg : a.heap.size ≤ g) : ∀ (us : List Value) (o : Nat) {w : World}, a.grownBy w none → a.grownBy (w.setCells g o us) none
  | [], _, _, h => h
  | u :: r, o, w, h => jv hg r (o + 1) (lw h hg)
/-- a box of a value -/
structure BoxV (w : World) (g : Nat) (cs : List Value) : Prop where
  row : w.ownsRow 0 TV 5 (.slice (some ⟨g, 0, none⟩) 1 1) 1 cs
theorem BoxV.cell {w : World} {g : Nat} {cs : List Value} (h : BoxV w g cs) (j : Nat) {u : Value} (hu : cs[j]? = some u) : w.cell? ⟨g, j, none⟩ = some u := by
  have hl : cs.length = 5 := h.row.1
  have hj : j < cs.length := (List.getElem?_eq_some_iff.1 hu).1
  rw [World.ownsRow.cellAt h.row j (by omega)]; exact hu
theorem BoxV.froz {w : World} {g : Nat} {cs : List Value} (h : BoxV w g cs) (j : Nat) : w.frozen? ⟨g, j, none⟩ = false := World.ownsRow.frozenAt h.row j
theorem BoxV.kept {w w' : World} {g : Nat} {cs : List Value} {row : Option Nat} (h : BoxV w g cs) (k : w.grownBy w' row) (hr : row ≠ some g) : BoxV w' g cs := ⟨World.ownsRow.kept h.row k (.inr fun e => hr e.symm)⟩
theorem BoxV.set {w : World} {g : Nat} {cs : List Value} (h : BoxV w g cs) (j : Nat) (u : Value) : BoxV (w.setCell ⟨g, j, none⟩ u) g (cs.set j u) ∧ w.grownBy (w.setCell ⟨g, j, none⟩ u) (some g) := ⟨⟨(World.ownsRow.stored h.row j u).1⟩, (World.ownsRow.stored h.row j u).2⟩
theorem BoxV.new (w : World) (c0 c1 c2 c3 c4 : Value) : BoxV (w.alloc (.cells #[c0, c1, c2, c3, c4] TV)) w.heap.size [c0, c1, c2, c3, c4] := ⟨World.ownsRow_lit w #[c0, c1, c2, c3, c4] 1 (Nat.zero_le _) (by decide) rfl⟩
theorem BoxV.lt {w : World} {g : Nat} {cs : List Value} (h : BoxV w g cs) : g < w.heap.size := (World.ownsRow.lt h.row g rfl).2
set_option maxRecDepth 100000 in
set_option maxHeartbeats 400000 in
theorem j4 : ∀ (m : Nat) (v : Va), v.size ≤ m → (∀ n, na n v) → ∀ (W : World) (c0 c1 c2 c3 c4 : Value), Rd anyB W (.agg #[c0, c1, c2, c3, c4]) v.d → (∀ n ob, cfg.gobj n = some ob → HoldsG W n ob) →
    Calls Tryz.prog 23 #[.agg #[c0, c1, c2, c3, c4]] W fun e W' => ∃ d0 d1 d2 d3 d4, e = .returned (.agg #[d0, d1, d2, d3, d4]) ∧ VaSh W' (fun q => W.heap.size ≤ q) m [d0, d1, d2, d3, d4] v ∧ (∀ u ∈ [d0, d1, d2, d3, d4], u.oneCell' = true) ∧ W.grownBy W' none ∧ d0 = .bool v.null ∧ d1 = .int .i64 v.i ∧ d2 = .int .i64 v.n ∧ (∃ a n c, d3 = .slice a n c) ∧ ∃ a n c, d4 = .slice a n c
  | 0, v, h => by have := v.size_pos; omega
  | m + 1, v, h => by
    intro hsm W c0 c1 c2 c3 c4 hrd hgo
    obtain ⟨iV, hiV, hzV0, hzV1, hzV2⟩ := info_parts (P := Tryz.prog) (e := TV) (z := .agg #[.bool false, .int .i64 0, .int .i64 0, .slice none 0 0, .slice none 0 0]) (size := 5) (bytes := 72) (by kernel_rfl)
    obtain ⟨hbl, hkl, _⟩ := hsm 1
    obtain ⟨bv, ka, kc, he, hbv, hk⟩ := ii hrd
    cases he
    have hbs : ∃ ba bn bc, c3 = .slice ba bn bc := by
      obtain ⟨ad, cap, e, _⟩ := Rd.sl_inv hbv
      exact ⟨_, _, _, e⟩
    obtain ⟨ba, bn, bc, rfl⟩ := hbs
    have hbn : bn = v.b.length := by
      obtain ⟨ad, cap, e, _⟩ := hbv.sl_inv
      cases e; simp
    subst hbn
    replace hk : Aside _ := hk
    replace hrd : Aside _ := hrd
    have g2 : Aside (W.grownBy ((W.alloc (.cells #[.bool v.null, .int .i64 v.i, .int .i64 v.n, .slice ba v.b.length bc, .slice ka v.kids.length kc] 29)).alloc (.cells #[.bool false, .int .i64 0, .int .i64 0, .slice none 0 0, .slice none 0 0] 29)) none) := (World.grownBy_alloc W _ none).trans (World.grownBy_alloc _ _ none)
    have ib := xy hbl (bh hbv g2) (eq hgo g2)
    have b1 := (BoxV.new W (.bool v.null) (.int .i64 v.i) (.int .i64 v.n) (.slice ba v.b.length bc) (.slice ka v.kids.length kc)).kept (World.grownBy_alloc _ (.cells #[.bool false, .int .i64 0, .int .i64 0, .slice none 0 0, .slice none 0 0] TV) none) (by simp)
    have b2 := BoxV.new (W.alloc (.cells #[.bool v.null, .int .i64 v.i, .int .i64 v.n, .slice ba v.b.length bc, .slice ka v.kids.length kc] TV)) (.bool false) (.int .i64 0) (.int .i64 0) (.slice none 0 0) (.slice none 0 0)
    replace ib : Aside _ := ib
    replace b1 : Aside _ := b1
    replace b2 : Aside _ := b2
    replace hbv : Aside _ := hbv
    replace hgo : Aside _ := hgo
    go_enter Tryz.func23, Tryz.ntmps23
    go_wp2_with (first
      | (go_at_call 54; go_must (
         refine Calls.mono (Aside.out ib) ?_; rintro e w2 ⟨bad, bcap, rfl, hcap, hby, gr⟩
         have B1 := b1.out.kept gr (by simp)
         have B2 := b2.out.kept gr (by simp)
         rw [show (W.alloc (.cells #[.bool v.null, .int .i64 v.i, .int .i64 v.n, .slice ba v.b.length bc, .slice ka v.kids.length kc] TV)).heap.size = W.heap.size + 1 by simp] at B2
         have k3 := B1.cell 3 rfl
         have f3 := B1.froz 3
         obtain ⟨S1, gs⟩ := B1.set 3 (.slice bad v.b.length v.b.length)
         have k4 := S1.cell 4 (u := .slice ka v.kids.length kc) rfl
         have gW := g2.out.trans gr
         clear ib b1 b2 B1))
      | (go_at_call 53; go_must (
         refine Calls.mono (clip53 _ _ _ _ hcap) ?_; rintro e w3 ⟨rfl, rfl⟩))
      | go_in)
    obtain ⟨Wb, hWb⟩ : ∃ Wb, w3.setCell ⟨W.heap.size, 3, none⟩ (.slice bad v.b.length v.b.length) = Wb := ⟨_, rfl⟩
    rw [hWb]
    rw [hWb] at S1 gs k4
    have gWb : W.grownBy Wb none := ⟨gs.os.trans gW.os, gs.tape.trans gW.tape, gs.output.trans gW.output, Nat.le_trans gW.size gs.size, fun b hb _ => (gs.block b (Nat.lt_of_lt_of_le hb gW.size) (by intro e; cases e; omega)).trans (gW.block b hb (by simp))⟩
    have B2b := B2.kept gs (by simp)
    have L0 : Aside (ClL (W.heap.size + 2) Wb Wb (.slice none 0 0) v m 0 [] (.slice bad v.b.length v.b.length)) := by
      refine ⟨World.ownsRow_nil _ _ _ _, fun i y hi => by omega, (hby v.b.length).grown gs fun q hq hlt => ⟨fun e => ?_, ?_, by simp [Value.ownBlock]⟩, World.grownBy.refl _ _⟩
      · cases e; simp at hq; omega
      · simp at hq; omega
    have hzb : W.heap.size + 2 ≤ Wb.heap.size := by
      have a1 := gr.size
      have a2 := gs.size
      simp at a1
      omega
    replace S1 : Aside _ := S1
    replace B2b : Aside _ := B2b
    replace gWb : Aside _ := gWb
    clear hby k3 f3 gs B2 gr hcap gW
    go_loopw [3, 14] (fun l i wl => ∃ (k : Nat) (cs : List Value), k ≤ v.kids.length ∧ i = .int .i64 k ∧ Aside (ClL (W.heap.size + 2) Wb wl l v m k cs (.slice bad v.b.length v.b.length)))
      (fun _ i _ => v.kids.length - (intOf i).toNat)
    case atStart => exact ⟨0, [], Nat.zero_le _, rfl, L0⟩
    case round =>
      obtain ⟨k, cs, hkk, rfl, L⟩ := hrel
      have hl0 : ∃ la lc, u3 = .slice la k lc := by
        rcases L.row.2 with ⟨e, e0⟩ | ⟨g, cap, cur, e, _⟩
        · exact ⟨_, _, by rw [e, e0]⟩
        · exact ⟨_, _, e⟩
      by_cases hlt : k < v.kids.length
      · obtain ⟨y, hy⟩ : ∃ y, v.kids[k]? = some y := ⟨_, List.getElem?_eq_getElem hlt⟩
        obtain ⟨kb, ko, e0, e1, e2, e3, e4, rfl, q0, q1, q2, q3, q4, hry⟩ := hk k y hy
        obtain ⟨bv2, ka2, kc2, he2, hbv2, _⟩ := ii hry
        cases he2
        obtain ⟨ba2, bc2, e2, _⟩ := Rd.sl_inv hbv2
        rw [List.length_map] at e2
        subst e2
        have gr0 : W.grownBy wr none := gWb.out.trans L.gr
        have mv : ∀ o u, W.cell? (ad3 kb o) = some u → wr.cell? (ad3 kb o) = some u := fun o u hu => gr0.cell hu (by simp)
        have r0 := mv _ _ q0
        have r1 := mv _ _ q1
        have r2 := mv _ _ q2
        have r3 := mv _ _ q3
        have r4 := mv _ _ q4
        have hym := List.mem_of_getElem? hy
        have hysz := Va.size_kid hym
        have ih := j4 m y (by omega) (fun n => (hsm (n + 1)).2.2 y hym)
        have hry2 := bh hry gr0
        have hgo2 := eq hgo gr0
        obtain ⟨la, lc, rfl⟩ := hl0
        replace ih : Aside _ := ih
        replace hry2 : Aside _ := hry2
        replace hgo2 : Aside _ := hgo2
        replace gr0 : Aside _ := gr0
        replace hy : Aside _ := hy
        clear mv q0 q1 q2 q3 q4 hry hbv2
        go_wp2_with (first
          | (go_at_call 23; go_must (
             obtain ⟨w1, hw1, gw1⟩ : ∃ w1, Aside (w1 = w1) ∧ wr.grownBy w1 none := ⟨wr, rfl, World.grownBy.refl _ _⟩
             refine Calls.mono (Aside.out ih _ _ _ _ _ _ (bh (Aside.out hry2) ?_) (eq (Aside.out hgo2) ?_)) ?_
             · first | exact World.grownBy_alloc _ _ _ | exact jv (Nat.le_refl _) _ _ (World.grownBy_alloc _ _ _) | (repeat (refine lw ?_ (Nat.le_refl _))); exact World.grownBy_alloc _ _ _
             · first | exact World.grownBy_alloc _ _ _ | exact jv (Nat.le_refl _) _ _ (World.grownBy_alloc _ _ _) | (repeat (refine lw ?_ (Nat.le_refl _))); exact World.grownBy_alloc _ _ _
             rintro e w2 ⟨d0, d1, d2, d3, d4, rfl, hsh, h1c, gr2, hd⟩
             clear hd
             have g12 : wr.grownBy w2 none := (World.grownBy_alloc _ _ _).trans gr2
             have row2 : w2.ownsRow Wb.heap.size TV 5 (.slice la k lc) k cs := L.out.row.kept g12 (by cases (Value.slice la k lc).ownBlock <;> simp)
             have hz2 : Wb.heap.size ≤ w2.heap.size := Nat.le_trans L.out.gr.size g12.size
             clear hw1 gw1 ih hry2 hgo2 g12))
          | (at_builtin; go_must (
             refine wpList_append_own_at _ rfl _ _ 27 rfl Wb.heap.size TV iV _ 5 72 rfl hiV hzV0 hzV1 hzV2 rfl (by decide) _ _ _ rfl (row2.alloc _) ⟨w2.heap.size, 0, none⟩ 1 1 [d0, d1, d2, d3, d4] rfl rfl (xr _ _ _ _ rfl) h1c (by unfold maxLen; omega) (by omega) (by simp; omega) ?_
             intro v3 w4 hown4 hgrow4 hnil4 hloc4
             have L2 : Aside (ClL (W.heap.size + 2) Wb w4 v3 v m (k + 1) (cs ++ [d0, d1, d2, d3, d4]) (.slice bad v.b.length v.b.length)) :=
               ClL.step L.out (Nat.le_trans hzb L.out.gr.size) hy.out (World.grownBy_alloc _ _ _) gr2 hsh hown4 hgrow4 hloc4
             clear hown4 hgrow4 hnil4 hloc4 hsh gr2 row2 h1c))
          | go_in)
        go_roundw
        case rel => exact ⟨k + 1, _, by omega, by go_num, L2⟩
        case measure => simp [intOf]; omega
      · have e : k = v.kids.length := by omega
        subst e
        obtain ⟨la, lc, rfl⟩ := hl0
        have hlc : v.kids.length ≤ lc := by
          rcases L.row.2 with ⟨e, e0⟩ | ⟨g, cap, cur, e, _, _, h, _⟩
          · omega
          · rw [(Value.slice.inj e).2.2]; exact h
        have T1 : BoxV wr W.heap.size [.bool v.null, .int .i64 v.i, .int .i64 v.n, .slice bad v.b.length v.b.length, .slice (ka) v.kids.length kc] := BoxV.kept (Aside.out S1) L.gr (by simp)
        have T2 : BoxV wr (W.heap.size + 1) [.bool false, .int .i64 0, .int .i64 0, .slice none 0 0, .slice none 0 0] := BoxV.kept (Aside.out B2b) L.gr (by simp)
        have k4' := T1.cell 4 rfl
        have f4 := T1.froz 4
        obtain ⟨U1, gu⟩ := T1.set 4 (.slice la v.kids.length v.kids.length)
        have U2 := T2.kept gu (by simp)
        have x0 := U1.cell 0 rfl
        have x1 := U1.cell 1 rfl
        have x2 := U1.cell 2 rfl
        have x3 := U1.cell 3 rfl
        have x4 := U1.cell 4 rfl
        have y0 := U2.cell 0 rfl
        have y1 := U2.cell 1 rfl
        have y2 := U2.cell 2 rfl
        have y3 := U2.cell 3 rfl
        have y4 := U2.cell 4 rfl
        have z0 := U2.froz 0
        have z1 := U2.froz 1
        have z2 := U2.froz 2
        have z3 := U2.froz 3
        have z4 := U2.froz 4
        replace U1 : Aside _ := U1
        replace U2 : Aside _ := U2
        replace gu : Aside _ := gu
        replace L : Aside _ := L
        clear T1 T2
        go_wp2_with (first
          | (go_at_call 55; go_must (
             refine Calls.mono (clip55 _ _ _ _ hlc) ?_; rintro e w5 ⟨rfl, rfl⟩))
          | go_in)
        obtain ⟨V0, h0⟩ := U2.out.set 0 (.bool v.null)
        obtain ⟨V1, h1⟩ := V0.set 1 (.int .i64 v.i)
        obtain ⟨V2, h2⟩ := V1.set 2 (.int .i64 v.n)
        obtain ⟨V3, h3⟩ := V2.set 3 (.slice bad v.b.length v.b.length)
        obtain ⟨V4, h4⟩ := V3.set 4 (.slice la v.kids.length v.kids.length)
        have hF := (((h0.trans h1).trans h2).trans h3).trans h4
        have hu := gu.out
        have w0 := V4.cell 0 (u := .bool v.null) rfl
        have w1 := V4.cell 1 (u := .int .i64 v.i) rfl
        have w2 := V4.cell 2 (u := .int .i64 v.n) rfl
        have w3 := V4.cell 3 (u := .slice bad v.b.length v.b.length) rfl
        have w4 := V4.cell 4 (u := .slice la v.kids.length v.kids.length) rfl
        have L := L.out
        have gW2 := gWb.out
        clear V0 V1 V2 V3 V4 h0 h1 h2 h3 h4
        generalize hWF : (((((w5.setCell ⟨W.heap.size, 4, none⟩ (.slice la v.kids.length v.kids.length)).setCell ⟨W.heap.size + 1, 0, none⟩ (.bool v.null)).setCell ⟨W.heap.size + 1, 1, none⟩ (.int .i64 v.i)).setCell ⟨W.heap.size + 1, 2, none⟩ (.int .i64 v.n)).setCell ⟨W.heap.size + 1, 3, none⟩ (.slice bad v.b.length v.b.length)).setCell ⟨W.heap.size + 1, 4, none⟩ (.slice la v.kids.length v.kids.length) = WF at *
        generalize w5.setCell ⟨W.heap.size, 4, none⟩ (.slice la v.kids.length v.kids.length) = w6 at *
        have blk : ∀ b, b < w5.heap.size → b ≠ W.heap.size → b ≠ W.heap.size + 1 → WF.heap[b]? = w5.heap[b]? := fun b hb n1 n2 =>
          (hF.block b (Nat.lt_of_lt_of_le hb hu.size) (by simpa using n2)).trans (hu.block b hb (by simpa using n1))
        refine bodyPost_ret (v := .agg #[.bool v.null, .int .i64 v.i, .int .i64 v.n, .slice bad v.b.length v.b.length, .slice la v.kids.length v.kids.length]) (by simp [results, Tryz.results23, go_sem, w0, w1, w2, w3, w4]) rfl ⟨_, _, _, _, _, rfl, ⟨_, _, _, _, _, _, rfl, ?_, fun i y hy => ?_⟩, fun u hu => ?_, ?_, rfl, rfl, rfl, ⟨_, _, _, rfl⟩, ⟨_, _, _, rfl⟩⟩
        · refine (L.by_.grown hu (B := fun q => W.heap.size + 2 ≤ q) fun q hq _ => ⟨fun e => by cases e; omega, hq.1⟩).grown hF fun q hq _ => ⟨fun e => by cases e; omega, by omega⟩
        · have hil : i < v.kids.length := (List.getElem?_eq_some_iff.1 hy).1
          obtain ⟨e0, e1, e2, e3, e4, q0, q1, q2, q3, q4, hq⟩ := L.sh i y hil hy
          have hg : ∃ g, la = some ⟨g, 0, none⟩ := by
            rcases L.row.2 with ⟨_, e0⟩ | ⟨g, cap, cur, e, _⟩
            · omega
            · exact ⟨g, (Value.slice.inj e).1⟩
          obtain ⟨g, rfl⟩ := hg
          obtain ⟨hg1, hg2⟩ := L.row.lt g rfl
          have eb := blk g hg2 (by omega) (by omega)
          have cell : ∀ j u, cs[i * 5 + j]? = some u → j < 5 → WF.cell? (ad3 g (0 + i * 5 + j)) = some u := fun j u hu hj => by
            rw [ae eb, show 0 + i * 5 + j = i * 5 + j by omega]
            exact (World.ownsRow.cellAt L.row (i * 5 + j) (by omega)).trans hu
          refine ⟨g, 0, e0, e1, e2, e3, e4, rfl, by omega, cell 0 _ q0 (by omega), cell 1 _ q1 (by omega), cell 2 _ q2 (by omega), cell 3 _ q3 (by omega), cell 4 _ q4 (by omega), ?_, ?_⟩
          · rw [aw eb, show 0 + i * 5 + 1 = i * 5 + 1 by omega]
            exact World.ownsRow.frozenAt L.row (i * 5 + 1)
          · exact VaSh.grown hF (fun q hq _ => ⟨fun e => by cases e; omega, by omega⟩) m (VaSh.grown (B := fun q => W.heap.size + 2 ≤ q) hu (fun q hq _ => ⟨fun e => by cases e; omega, hq.1⟩) m hq)
        · simp only [List.mem_cons, List.not_mem_nil, or_false] at hu
          rcases hu with rfl | rfl | rfl | rfl | rfl <;> rfl
        · exact ⟨hF.os.trans (hu.os.trans (L.gr.os.trans gW2.os)), hF.tape.trans (hu.tape.trans (L.gr.tape.trans gW2.tape)), hF.output.trans (hu.output.trans (L.gr.output.trans gW2.output)), Nat.le_trans gW2.size (Nat.le_trans L.gr.size (Nat.le_trans hu.size hF.size)), fun b hb _ =>
            (blk b (Nat.lt_of_lt_of_le hb (Nat.le_trans gW2.size L.gr.size)) (by omega) (by omega)).trans ((L.gr.block b (Nat.lt_of_lt_of_le hb gW2.size) (by simp)).trans (gW2.block b hb (by simp)))⟩
end Go.Proofs.YtnabebdceaoiiaaGreatDoor
