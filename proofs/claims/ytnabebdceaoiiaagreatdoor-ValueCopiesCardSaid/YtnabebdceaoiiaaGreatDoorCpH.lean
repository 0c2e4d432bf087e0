/- The law ValueCopies, walked: where the value may be. -/
import Derived.Test.YtnabebdceaoiiaaGreatDoorCpG
namespace Go.Proofs.YtnabebdceaoiiaaGreatDoor
open Go Go.Ev Go.RowKit
set_option linter.unusedVariables false
set_option linter.unusedSimpArgs false

theorem abh {W : World} {v : Value} {b : Tx} (h : Rd anyB W v (txt b)) : ∃ a n c, v = .slice a n c := by
  obtain ⟨a, c, e, _⟩ := Rd.sl_inv h
  exact ⟨_, _, _, e⟩
theorem eh (w : World) : w.grownBy w.drew none := ⟨rfl, rfl, rfl, Nat.le_refl _, fun _ _ _ => rfl⟩
/-- what stands behind the writing -/
structure Fin8 (W w : World) (ga gv : Nat) (v : Va) (nl : Bool) (a3 a4 v3 v4 : Value) : Prop where
  ba : BoxV w ga [.bool nl, .int .i64 v.i, .int .i64 v.n, a3, a4]
  bv : BoxV w gv [.bool nl, .int .i64 v.i, .int .i64 v.n, v3, v4]
  ra : Rd anyB w (.agg #[.bool nl, .int .i64 v.i, .int .i64 v.n, a3, a4]) v.d
  rv : Rd anyB w (.agg #[.bool nl, .int .i64 v.i, .int .i64 v.n, v3, v4]) v.d
  ho : Holds w
  gr : W.grownBy w none
section
variable {W w w' : World} {ga gv : Nat} {v : Va} {nl : Bool} {a3 a4 v3 v4 : Value}
theorem Fin8.grown (h : Fin8 W w ga gv v nl a3 a4 v3 v4) (g : w.grownBy w' none) : Fin8 W w' ga gv v nl a3 a4 v3 v4 :=
  ⟨h.ba.kept g (by simp), h.bv.kept g (by simp), bh h.ra g, bh h.rv g, h.ho.grown g, h.gr.trans g⟩
theorem Fin8.grown' (g : w.grownBy w' none) (h : Fin8 W w ga gv v nl a3 a4 v3 v4) : Fin8 W w' ga gv v nl a3 a4 v3 v4 := h.grown g
theorem Fin8.all (h : Fin8 W w ga gv v nl a3 a4 v3 v4) : w.cell? ⟨ga, 0, none⟩ = some (.bool nl) ∧ w.cell? ⟨ga, 1, none⟩ = some (.int .i64 v.i) ∧ w.cell? ⟨ga, 2, none⟩ = some (.int .i64 v.n) ∧ w.cell? ⟨ga, 3, none⟩ = some a3 ∧ w.cell? ⟨ga, 4, none⟩ = some a4 ∧
    w.cell? ⟨gv, 0, none⟩ = some (.bool nl) ∧ w.cell? ⟨gv, 1, none⟩ = some (.int .i64 v.i) ∧ w.cell? ⟨gv, 2, none⟩ = some (.int .i64 v.n) ∧ w.cell? ⟨gv, 3, none⟩ = some v3 ∧ w.cell? ⟨gv, 4, none⟩ = some v4 ∧ Fin8 W w ga gv v nl a3 a4 v3 v4 :=
  ⟨h.ba.cell 0 rfl, h.ba.cell 1 rfl, h.ba.cell 2 rfl, h.ba.cell 3 rfl, h.ba.cell 4 rfl, h.bv.cell 0 rfl, h.bv.cell 1 rfl, h.bv.cell 2 rfl, h.bv.cell 3 rfl, h.bv.cell 4 rfl, h⟩
theorem same_a (e5 : evL cfg n_aj 0 [.d v.d, .d v.d] [] = some (.d (.bool (true)), [])) (h : Fin8 W w ga gv v nl a3 a4 v3 v4) : Calls Tryz.prog 17 #[.agg #[.bool nl, .int .i64 v.i, .int .i64 v.n, a3, a4], .agg #[.bool nl, .int .i64 v.i, .int .i64 v.n, v3, v4]] w fun e w' => e = .returned (.bool true) ∧ w.grownBy w' none :=
  a7 Tryz.func17 (by kernel_rfl) (by kernel_rfl) [v.d, v.d] e5 rfl (abg h.ra h.rv) h.ho
theorem same_c (e5 : evL cfg n_aj 0 [.d v.d, .d v.d] [] = some (.d (.bool (true)), [])) {vc : Value} (h : Fin8 W w ga gv v nl a3 a4 v3 v4) (rc : Rd anyB w vc v.d) : Calls Tryz.prog 17 #[vc, .agg #[.bool nl, .int .i64 v.i, .int .i64 v.n, v3, v4]] w fun e w' => e = .returned (.bool true) ∧ w.grownBy w' none :=
  a7 Tryz.func17 (by kernel_rfl) (by kernel_rfl) [v.d, v.d] e5 rfl (abg rc h.rv) h.ho
theorem clone_c (e4 : evL cfg n_av 0 [.d v.d] [] = some (.d v.d, [])) (h : Fin8 W w ga gv v nl a3 a4 v3 v4) : Calls Tryz.prog 23 #[.agg #[.bool nl, .int .i64 v.i, .int .i64 v.n, v3, v4]] w fun e w' => ∃ vc, e = .returned vc ∧ Rd anyB w' vc v.d ∧ w.grownBy w' none :=
  pw Tryz.func23 (by kernel_rfl) (by kernel_rfl) [v.d] e4 rfl (iw h.rv) h.ho
end
set_option maxRecDepth 100000 in
set_option maxHeartbeats 2000000 in
theorem aau (t : Ty) (v : Va) (ht : tyIn t) (hv : okV v) (hR : rightT t = true) (hF : fewVB v = true) (hC : rchkV t v = 0) (w : World) (t0 t1 t2 t3 t4 t5 v0 v1 v2 v3 v4 : Value) (k0 : Rd anyB w (.agg #[t0, t1, t2, t3, t4, t5]) t.d) (k1 : Rd anyB w (.agg #[v0, v1, v2, v3, v4]) v.d) (hg : Holds w) :
    Calls Tryz.prog 5 #[.agg #[t0, t1, t2, t3, t4, t5], .agg #[v0, v1, v2, v3, v4]] w fun e w' => e = .returned (.bool true) ∧ w.grownBy w' none := by
  have hw : fewV 1 v ≤ 400 := by simpa [fewVB] using hF
  have hsm : ∀ n, na n v := fun n => xd n v 1 (by omega)
  obtain ⟨v3, vka, vkc, e, hv3, -⟩ := ii k1
  cases e
  obtain ⟨va1, va2, va3, rfl⟩ := abh hv3
  clear hv3 hw
  have e1 := fo t (ht _)
  have e2 := law14_Few_ans v
  have e3 : rightT t = true → evL cfg n_ab 0 [.d t.d, .d v.d] [] = some (.d (.int .i64 (0)), []) := fun h => hC ▸ ref14_Check_ans _ v t (Nat.le_refl _) hv (nf h _)
  have e4 := fb v.size v (Nat.le_refl _) (hsm _)
  have e5 := ref14_Same_ans v hv
  rw [nc _ _ (Nat.le_refl _)] at e5
  have gA : w.grownBy (w.alloc (.cells #[t0, t1, t2, t3, t4, t5] 25)) none := World.grownBy_alloc _ _ _
  have gB : w.grownBy ((w.alloc (.cells #[t0, t1, t2, t3, t4, t5] 25)).alloc (.cells #[.bool v.null, .int .i64 v.i, .int .i64 v.n, .slice va1 va2 va3, .slice vka v.kids.length vkc] 29)) none := gA.trans (World.grownBy_alloc _ _ _)
  have b1 := (BoxT6.new w t0 t1 t2 t3 t4 t5).kept (World.grownBy_alloc (w.alloc (.cells #[t0, t1, t2, t3, t4, t5] 25)) (.cells #[.bool v.null, .int .i64 v.i, .int .i64 v.n, .slice va1 va2 va3, .slice vka v.kids.length vkc] 29) none) (by simp)
  have b2 := BoxV.new (w.alloc (.cells #[t0, t1, t2, t3, t4, t5] 25)) (.bool v.null) (.int .i64 v.i) (.int .i64 v.n) (.slice va1 va2 va3) (.slice vka v.kids.length vkc)
  have hz1 : (w.alloc (.cells #[t0, t1, t2, t3, t4, t5] 25)).heap.size = w.heap.size + 1 := by simp
  rw [hz1] at b2
  have s0 : Aside (Sta ((w.alloc (.cells #[t0, t1, t2, t3, t4, t5] 25)).alloc (.cells #[.bool v.null, .int .i64 v.i, .int .i64 v.n, .slice va1 va2 va3, .slice vka v.kids.length vkc] 29)) w.heap.size (w.heap.size + 1) t0 t1 t2 t3 t4 t5 (.bool v.null) (.int .i64 v.i) (.int .i64 v.n) (.slice va1 va2 va3) (.slice vka v.kids.length vkc) t v) := ⟨b1, b2, bh k0 gB, bh k1 gB, hg.grown gB⟩
  replace gB : Aside _ := gB
  replace e1 : Aside _ := e1
  replace e2 : Aside _ := e2
  replace e3 : Aside _ := e3
  replace e4 : Aside _ := e4
  replace e5 : Aside _ := e5
  clear gA b1 b2 hz1 k0 k1 hg
  go_enter Tryz.func5, Tryz.ntmps5
  go_wp2_with (first
    | (go_at_call 10; go_must (
       refine Calls.mono (a7 Tryz.func10 (by kernel_rfl) (by kernel_rfl) [] kp rfl (fun i v d h => by simp at h) s0.out.ho) ?_
       rintro e w1 ⟨rfl, g1⟩
       have s1 := s0.out.grown g1
       obtain ⟨m0, m1, m2, m3, m4, m5, -⟩ := s1.cells
       have h1 := gB.out.trans g1
       replace s1 : Aside _ := s1
       replace h1 : Aside _ := h1
       clear g1 s0 gB))
    | (go_at_call 11; go_must (
       refine Calls.mono (a7 Tryz.func11 (by kernel_rfl) (by kernel_rfl) [t.d] e1.out rfl (iw s1.out.rt) s1.out.ho) ?_
       rintro e w2 ⟨rfl, g2⟩
       rw [hR]
       have s2 := s1.out.grown g2
       have h2 : Aside (w.grownBy w2 none) := h1.out.trans g2
       clear m0 m1 m2 m3 m4 m5
       obtain ⟨-, -, -, -, -, -, n0, n1, n2, n3, n4⟩ := s2.cells
       replace s2 : Aside _ := s2
       clear g2 s1 h1))
    | (go_at_call 12; go_must (
       refine Calls.mono (a7 Tryz.func12 (by kernel_rfl) (by kernel_rfl) [v.d] e2.out rfl (iw s2.out.rv) s2.out.ho) ?_
       rintro e w3 ⟨rfl, g3⟩
       rw [hF]
       have s3 := s2.out.grown g3
       have h3 : Aside (w.grownBy w3 none) := h2.out.trans g3
       clear n0 n1 n2 n3 n4
       obtain ⟨p0, p1, p2, p3, p4, p5, p6, p7, p8, p9, p10⟩ := s3.cells
       replace s3 : Aside _ := s3
       clear g3 s2 h2))
    | (go_at_call 13; go_must (
       refine Calls.mono (ah6 Tryz.func13 (by kernel_rfl) (by kernel_rfl) [t.d, v.d] (e3.out hR) rfl (abg s3.out.rt s3.out.rv) s3.out.ho) ?_
       rintro e w4 ⟨rfl, g4⟩
       have s4 := s3.out.grown g4
       have h4 : Aside (w.grownBy w4 none) := h3.out.trans g4
       clear p0 p1 p2 p3 p4 p5 p6 p7 p8 p9 p10
       obtain ⟨-, -, -, -, -, -, q0, q1, q2, q3, q4⟩ := s4.cells
       replace s4 : Aside _ := s4
       clear g4 s3 h3))
    | (go_at_call 23
       refine Calls.mono (pw Tryz.func23 (by kernel_rfl) (by kernel_rfl) [v.d] e4.out rfl (iw s4.out.rv) s4.out.ho) ?_
       rintro e w5 ⟨va, rfl, ra, g5⟩
       obtain ⟨a3, aka, akc, rfl, ha3, -⟩ := ii ra
       obtain ⟨aa1, aa2, aa3, rfl⟩ := abh ha3
       have s5 := s4.out.grown g5
       have h5 : Aside (w.grownBy w5 none) := h4.out.trans g5
       have s5b := s5.grown (World.grownBy_alloc w5 (.cells #[.bool v.null, .int .i64 v.i, .int .i64 v.n, .slice aa1 aa2 aa3, .slice aka v.kids.length akc] 29) none)
       have ra5 := bh ra (World.grownBy_alloc w5 (.cells #[.bool v.null, .int .i64 v.i, .int .i64 v.n, .slice aa1 aa2 aa3, .slice aka v.kids.length akc] 29) none)
       have ba5 := BoxV.new w5 (.bool v.null) (.int .i64 v.i) (.int .i64 v.n) (.slice aa1 aa2 aa3) (.slice aka v.kids.length akc)
       clear q0 q1 q2 q3 q4
       obtain ⟨-, -, -, -, -, -, q0, q1, q2, q3, q4⟩ := s5b.cells
       replace s5b : Aside _ := s5b
       replace ra5 : Aside _ := ra5
       replace ba5 : Aside _ := ba5
       clear g5 s4 h4 s5 ra ha3)
    | (go_at_call 23
       refine Calls.mono (j4 v.size v (Nat.le_refl _) hsm _ _ _ _ _ _ s5b.out.rv s5b.out.ho) ?_
       rintro e w6 ⟨d0, d1, d2, d3, d4, rfl, hsh, h1c, g6, rfl, rfl, rfl, ⟨da, dn, dc, rfl⟩, ⟨ea, en, ec, rfl⟩⟩
       have hsh6 := VaSh.grown (B := fun q => (w5.alloc (.cells #[.bool v.null, .int .i64 v.i, .int .i64 v.n, .slice aa1 aa2 aa3, .slice aka v.kids.length akc] 29)).heap.size ≤ q) (World.grownBy_alloc w6 (.cells #[.bool v.null, .int .i64 v.i, .int .i64 v.n, .slice da dn dc, .slice ea en ec] 29) none) (fun q hq _ => ⟨by simp, hq⟩) v.size hsh
       have bb6 := BoxV.new w6 (.bool v.null) (.int .i64 v.i) (.int .i64 v.n) (.slice da dn dc) (.slice ea en ec)
       have is := kw v.size v (Nat.le_refl _) hsm _ _ (fun b h => h) _ w6.heap.size 0 _ _ _ _ _ (bb6.cell 0 rfl) (bb6.cell 1 rfl) (bb6.cell 2 rfl) (bb6.cell 3 rfl) (bb6.cell 4 rfl) hsh6
       replace is : Aside _ := is
       replace g6 : Aside _ := g6
       clear hsh hsh6 h1c bb6 q0 q1 q2 q3 q4)
    | (go_at_call 24; go_must (
       refine Calls.mono (Aside.out is) ?_
       rintro e w8 ⟨rfl, S8⟩
       have g8 : (w5.alloc (.cells #[.bool v.null, .int .i64 v.i, .int .i64 v.n, .slice aa1 aa2 aa3, .slice aka v.kids.length akc] 29)).grownBy w8 none := by
         have ga := g6.out.trans (World.grownBy_alloc w6 (.cells #[.bool v.null, .int .i64 v.i, .int .i64 v.n, .slice da dn dc, .slice ea en ec] 29) none)
         exact ⟨S8.os.trans ga.os, S8.tape.trans ga.tape, S8.output.trans ga.output, Nat.le_trans ga.size (Nat.le_of_eq S8.size.symm), fun b hb _ => (S8.block b hb).trans (ga.block b hb (by simp))⟩
       have F8 : Fin8 w w8 w5.heap.size (w.heap.size + 1) v v.null (.slice aa1 aa2 aa3) (.slice aka v.kids.length akc) (.slice va1 va2 va3) (.slice vka v.kids.length vkc) :=
         ⟨ba5.out.kept g8 (by simp), s5b.out.bv.kept g8 (by simp), bh ra5.out g8, bh s5b.out.rv g8, s5b.out.ho.grown g8, (h5.out.trans (World.grownBy_alloc _ _ _)).trans g8⟩
       replace F8 : Aside _ := F8
       clear S8 g8 g6 is ba5 s5b ra5 h5))
    | go_in)
  have F := F8.out
  clear F8
  clear e1 e2 e3 ht hv hR hF hC hsm
  cases hn : v.null with
  | true =>
    rw [hn] at F
    clear hn
    obtain ⟨x0, x1, x2, x3, x4, y0, y1, y2, y3, y4, -⟩ := F.all
    have test : (fun w' => w'.cell? ⟨w5.heap.size, 0, none⟩ = some (.bool true) ∧ w'.cell? ⟨w5.heap.size, 1, none⟩ = some (.int .i64 v.i) ∧ w'.cell? ⟨w5.heap.size, 2, none⟩ = some (.int .i64 v.n) ∧ w'.cell? ⟨w5.heap.size, 3, none⟩ = some (.slice aa1 aa2 aa3) ∧ w'.cell? ⟨w5.heap.size, 4, none⟩ = some (.slice aka v.kids.length akc) ∧
        w'.cell? ⟨w.heap.size + 1, 0, none⟩ = some (.bool true) ∧ w'.cell? ⟨w.heap.size + 1, 1, none⟩ = some (.int .i64 v.i) ∧ w'.cell? ⟨w.heap.size + 1, 2, none⟩ = some (.int .i64 v.n) ∧ w'.cell? ⟨w.heap.size + 1, 3, none⟩ = some (.slice va1 va2 va3) ∧ w'.cell? ⟨w.heap.size + 1, 4, none⟩ = some (.slice vka v.kids.length vkc) ∧
        Fin8 w w' w5.heap.size (w.heap.size + 1) v true (.slice aa1 aa2 aa3) (.slice aka v.kids.length akc) (.slice va1 va2 va3) (.slice vka v.kids.length vkc)) w8.drew := by
      ((try dsimp only); (try go_split_ands); exact Fin8.all (Fin8.grown' (eh _) (by assumption)))
    refine wp_region_noPanic ?_
    refine wp_region_held_drew (S := (fun w' => w'.cell? ⟨w5.heap.size, 0, none⟩ = some (.bool true) ∧ w'.cell? ⟨w5.heap.size, 1, none⟩ = some (.int .i64 v.i) ∧ w'.cell? ⟨w5.heap.size, 2, none⟩ = some (.int .i64 v.n) ∧ w'.cell? ⟨w5.heap.size, 3, none⟩ = some (.slice aa1 aa2 aa3) ∧ w'.cell? ⟨w5.heap.size, 4, none⟩ = some (.slice aka v.kids.length akc) ∧
        w'.cell? ⟨w.heap.size + 1, 0, none⟩ = some (.bool true) ∧ w'.cell? ⟨w.heap.size + 1, 1, none⟩ = some (.int .i64 v.i) ∧ w'.cell? ⟨w.heap.size + 1, 2, none⟩ = some (.int .i64 v.n) ∧ w'.cell? ⟨w.heap.size + 1, 3, none⟩ = some (.slice va1 va2 va3) ∧ w'.cell? ⟨w.heap.size + 1, 4, none⟩ = some (.slice vka v.kids.length vkc) ∧
        Fin8 w w' w5.heap.size (w.heap.size + 1) v true (.slice aa1 aa2 aa3) (.slice aka v.kids.length akc) (.slice va1 va2 va3) (.slice vka v.kids.length vkc))) (by kernel_rfl) test (fun hHeld => ?_)
    refine wpAnyH_take (i := 0) (oi := { dst := some 28, op := Op.load 29 (Operand.tmp 5), type := 29, pos := "law.go:117", after := #[], guard := none }) (v := ?_) rfl (by kernel_rfl) (by kernel_rfl) (by kernel_rfl) (fun _ _ _ h => h) (Or.inl ⟨by rfl, ?_⟩) (by assumption) ?_
    rotate_left
    · intro w hSw
      (try dsimp only at hSw)
      go_simp
      (try with_reducible rfl)
    try simp only [Act.put, List.setIfInBounds_toArray, List.set_cons_zero, List.set_cons_succ]
    refine wpAnyH_take (i := 1) (oi := { dst := some 29, op := Op.load 29 (Operand.tmp 3), type := 29, pos := "law.go:117", after := #[], guard := none }) (v := ?_) rfl (by kernel_rfl) (by kernel_rfl) (by kernel_rfl) (fun _ _ _ h => h) (Or.inl ⟨by rfl, ?_⟩) (by assumption) ?_
    rotate_left
    · intro w hSw
      (try dsimp only at hSw)
      go_simp
      (try with_reducible rfl)
    try simp only [Act.put, List.setIfInBounds_toArray, List.set_cons_zero, List.set_cons_succ]
    refine wpAnyH_ready (rs := [2]) (by kernel_rfl) (by simp) ?_
    refine AllReadyH.cons (o := { dst := some 30, op := Op.call { callee := Callee.value (Operand.func 17), args := #[Operand.tmp 28, Operand.tmp 29], argTypes := #[29, 29] }, type := 4, pos := "law.go:117", after := #[{ on := 0, ground := Ground.data }, { on := 1, ground := Ground.data }], guard := none }) rfl (fun K hK => ?_) AllReadyH.nil
    go_simp
    go_at_call 17
    refine Calls.mono (same_a e5.out (F.grown (eh _))) ?_
    rintro e w9 ⟨rfl, g9⟩
    have F9 := Fin8.grown' g9 (F.grown (eh _))
    refine hK.out _ _ (Fin8.all F9) (fun hHeld => ?_)
    clear hK K
    try simp only [Act.put, List.setIfInBounds_toArray, List.set_cons_zero, List.set_cons_succ]
    refine wpAnyH_take (i := 3) (oi := { dst := some 31, op := Op.move (Operand.tmp 30), type := 4, pos := "law.go:117", after := #[{ on := 2, ground := Ground.data }, { on := 2, ground := Ground.chain }], guard := none }) (v := ?_) rfl (by kernel_rfl) (by kernel_rfl) (by kernel_rfl) (fun _ _ _ h => h) (Or.inl ⟨by rfl, ?_⟩) (by assumption) ?_
    rotate_left
    · intro w hSw
      (try dsimp only at hSw)
      go_simp
      (try with_reducible rfl)
    try simp only [Act.put, List.setIfInBounds_toArray, List.set_cons_zero, List.set_cons_succ]
    refine wpAnyH_take (i := 4) (oi := { dst := some 32, op := Op.fieldAddr 29 (Operand.tmp 3) 0, type := 0, pos := "law.go:117", after := #[{ on := 3, ground := Ground.guard }], guard := some (3, true) }) (v := ?_) rfl (by kernel_rfl) (by kernel_rfl) (by kernel_rfl) (fun _ _ _ h => h) (Or.inl ⟨by rfl, ?_⟩) (by assumption) ?_
    rotate_left
    · intro w hSw
      (try dsimp only at hSw)
      go_simp
      (try with_reducible rfl)
    try simp only [Act.put, List.setIfInBounds_toArray, List.set_cons_zero, List.set_cons_succ]
    refine wpAnyH_take (i := 5) (oi := { dst := some 33, op := Op.load 4 (Operand.tmp 32), type := 4, pos := "law.go:117", after := #[{ on := 4, ground := Ground.data }, { on := 3, ground := Ground.guard }], guard := some (3, true) }) (v := ?_) rfl (by kernel_rfl) (by kernel_rfl) (by kernel_rfl) (fun _ _ _ h => h) (Or.inl ⟨by rfl, ?_⟩) (by assumption) ?_
    rotate_left
    · intro w hSw
      (try dsimp only at hSw)
      go_simp
      (try with_reducible rfl)
    try simp only [Act.put, List.setIfInBounds_toArray, List.set_cons_zero, List.set_cons_succ]
    refine wpAnyH_take (i := 6) (oi := { dst := some 34, op := Op.move (Operand.tmp 33), type := 4, pos := "law.go:117", after := #[{ on := 5, ground := Ground.data }, { on := 3, ground := Ground.chain }, { on := 3, ground := Ground.guard }], guard := some (3, true) }) (v := ?_) rfl (by kernel_rfl) (by kernel_rfl) (by kernel_rfl) (fun _ _ _ h => h) (Or.inl ⟨by rfl, ?_⟩) (by assumption) ?_
    rotate_left
    · intro w hSw
      (try dsimp only at hSw)
      go_simp
      (try with_reducible rfl)
    try simp only [Act.put, List.setIfInBounds_toArray, List.set_cons_zero, List.set_cons_succ]
    refine wpAnyH_take (i := 7) (oi := { dst := some 35, op := Op.load 29 (Operand.tmp 3), type := 29, pos := "law.go:117", after := #[{ on := 6, ground := Ground.guard }], guard := some (6, false) }) rfl (by kernel_rfl) (by kernel_rfl) (by kernel_rfl) (fun _ _ _ h => h) (Or.inr ⟨by rfl, rfl⟩) (by assumption) ?_
    try simp only [Act.put, List.setIfInBounds_toArray, List.set_cons_zero, List.set_cons_succ]
    refine wpAnyH_take (i := 9) (oi := { dst := some 37, op := Op.load 29 (Operand.tmp 3), type := 29, pos := "law.go:117", after := #[{ on := 6, ground := Ground.guard }], guard := some (6, false) }) rfl (by kernel_rfl) (by kernel_rfl) (by kernel_rfl) (fun _ _ _ h => h) (Or.inr ⟨by rfl, rfl⟩) (by assumption) ?_
    try simp only [Act.put, List.setIfInBounds_toArray, List.set_cons_zero, List.set_cons_succ]
    refine wpAnyH_take (i := 8) (oi := { dst := some 36, op := Op.call { callee := Callee.value (Operand.func 23), args := #[Operand.tmp 35], argTypes := #[29] }, type := 29, pos := "law.go:117", after := #[{ on := 7, ground := Ground.data }, { on := 6, ground := Ground.chain }, { on := 6, ground := Ground.guard }], guard := some (6, false) }) rfl (by kernel_rfl) (by kernel_rfl) (by kernel_rfl) (fun _ _ _ h => h) (Or.inr ⟨by rfl, rfl⟩) (by assumption) ?_
    try simp only [Act.put, List.setIfInBounds_toArray, List.set_cons_zero, List.set_cons_succ]
    refine wpAnyH_take (i := 10) (oi := { dst := some 38, op := Op.call { callee := Callee.value (Operand.func 17), args := #[Operand.tmp 36, Operand.tmp 37], argTypes := #[29, 29] }, type := 4, pos := "law.go:117", after := #[{ on := 8, ground := Ground.data }, { on := 9, ground := Ground.data }, { on := 8, ground := Ground.chain }, { on := 6, ground := Ground.guard }], guard := some (6, false) }) rfl (by kernel_rfl) (by kernel_rfl) (by kernel_rfl) (fun _ _ _ h => h) (Or.inr ⟨by rfl, rfl⟩) (by assumption) ?_
    try simp only [Act.put, List.setIfInBounds_toArray, List.set_cons_zero, List.set_cons_succ]
    refine wpAnyH_take (i := 11) (oi := { dst := some 39, op := Op.pick (Operand.tmp 34) (Operand.const (Value.bool true)) (Operand.tmp 38), type := 4, pos := "law.go:117", after := #[{ on := 6, ground := Ground.data }, { on := 10, ground := Ground.data }, { on := 3, ground := Ground.guard }], guard := some (3, true) }) (v := ?_) rfl (by kernel_rfl) (by kernel_rfl) (by kernel_rfl) (fun _ _ _ h => h) (Or.inl ⟨by rfl, ?_⟩) (by assumption) ?_
    rotate_left
    · intro w hSw
      (try dsimp only at hSw)
      go_simp
      (try with_reducible rfl)
    try simp only [Act.put, List.setIfInBounds_toArray, List.set_cons_zero, List.set_cons_succ]
    refine wpAnyH_take (i := 12) (oi := { dst := some 40, op := Op.pick (Operand.tmp 31) (Operand.tmp 39) (Operand.const (Value.bool false)), type := 4, pos := "law.go:117", after := #[{ on := 3, ground := Ground.data }, { on := 11, ground := Ground.data }], guard := none }) (v := ?_) rfl (by kernel_rfl) (by kernel_rfl) (by kernel_rfl) (fun _ _ _ h => h) (Or.inl ⟨by rfl, ?_⟩) (by assumption) ?_
    rotate_left
    · intro w hSw
      (try dsimp only at hSw)
      go_simp
      (try with_reducible rfl)
    try simp only [Act.put, List.setIfInBounds_toArray, List.set_cons_zero, List.set_cons_succ]
    refine wpAnyH_take (i := 13) (oi := { dst := some 4, op := Op.assign (Operand.tmp 40), type := 4, pos := "law.go:117", after := #[{ on := 12, ground := Ground.data }, { on := 10, ground := Ground.chain }, { on := 0, ground := Ground.phase }, { on := 1, ground := Ground.phase }, { on := 2, ground := Ground.phase }, { on := 3, ground := Ground.phase }, { on := 4, ground := Ground.phase }, { on := 5, ground := Ground.phase }, { on := 6, ground := Ground.phase }, { on := 7, ground := Ground.phase }, { on := 8, ground := Ground.phase }, { on := 9, ground := Ground.phase }, { on := 10, ground := Ground.phase }, { on := 11, ground := Ground.phase }, { on := 12, ground := Ground.phase }], guard := none }) (v := ?_) rfl (by kernel_rfl) (by kernel_rfl) (by kernel_rfl) (fun _ _ _ h => h) (Or.inl ⟨by rfl, ?_⟩) (by assumption) ?_
    rotate_left
    · intro w hSw
      (try dsimp only at hSw)
      go_simp
      (try with_reducible rfl)
    try simp only [Act.put, List.setIfInBounds_toArray, List.set_cons_zero, List.set_cons_succ]
    refine wpAnyH_done (by kernel_rfl) ?_ _
    refine NoPanic.normal ?_
    all_goals (go_wp2; go_ret; go_split_ands; exact ⟨rfl, Fin8.gr (by assumption)⟩)
  | false =>
    rw [hn] at F
    clear hn
    obtain ⟨x0, x1, x2, x3, x4, y0, y1, y2, y3, y4, -⟩ := F.all
    have test : (fun w' => w'.cell? ⟨w5.heap.size, 0, none⟩ = some (.bool false) ∧ w'.cell? ⟨w5.heap.size, 1, none⟩ = some (.int .i64 v.i) ∧ w'.cell? ⟨w5.heap.size, 2, none⟩ = some (.int .i64 v.n) ∧ w'.cell? ⟨w5.heap.size, 3, none⟩ = some (.slice aa1 aa2 aa3) ∧ w'.cell? ⟨w5.heap.size, 4, none⟩ = some (.slice aka v.kids.length akc) ∧
        w'.cell? ⟨w.heap.size + 1, 0, none⟩ = some (.bool false) ∧ w'.cell? ⟨w.heap.size + 1, 1, none⟩ = some (.int .i64 v.i) ∧ w'.cell? ⟨w.heap.size + 1, 2, none⟩ = some (.int .i64 v.n) ∧ w'.cell? ⟨w.heap.size + 1, 3, none⟩ = some (.slice va1 va2 va3) ∧ w'.cell? ⟨w.heap.size + 1, 4, none⟩ = some (.slice vka v.kids.length vkc) ∧
        Fin8 w w' w5.heap.size (w.heap.size + 1) v false (.slice aa1 aa2 aa3) (.slice aka v.kids.length akc) (.slice va1 va2 va3) (.slice vka v.kids.length vkc)) w8.drew := by
      ((try dsimp only); (try go_split_ands); exact Fin8.all (Fin8.grown' (eh _) (by assumption)))
    first | (go_region_held3 (fun w' => w'.cell? ⟨w5.heap.size, 0, none⟩ = some (.bool false) ∧ w'.cell? ⟨w5.heap.size, 1, none⟩ = some (.int .i64 v.i) ∧ w'.cell? ⟨w5.heap.size, 2, none⟩ = some (.int .i64 v.n) ∧ w'.cell? ⟨w5.heap.size, 3, none⟩ = some (.slice aa1 aa2 aa3) ∧ w'.cell? ⟨w5.heap.size, 4, none⟩ = some (.slice aka v.kids.length akc) ∧
        w'.cell? ⟨w.heap.size + 1, 0, none⟩ = some (.bool false) ∧ w'.cell? ⟨w.heap.size + 1, 1, none⟩ = some (.int .i64 v.i) ∧ w'.cell? ⟨w.heap.size + 1, 2, none⟩ = some (.int .i64 v.n) ∧ w'.cell? ⟨w.heap.size + 1, 3, none⟩ = some (.slice va1 va2 va3) ∧ w'.cell? ⟨w.heap.size + 1, 4, none⟩ = some (.slice vka v.kids.length vkc) ∧
        Fin8 w w' w5.heap.size (w.heap.size + 1) v false (.slice aa1 aa2 aa3) (.slice aka v.kids.length akc) (.slice va1 va2 va3) (.slice vka v.kids.length vkc))
      (((try dsimp only); (try go_split_ands); first | exact Fin8.all (Fin8.grown' (by assumption) (by assumption)) | exact Fin8.all (Fin8.grown' (eh _) (by assumption)) | go_keep))
      (first
        | (go_at_call 23; go_split_ands; refine Calls.mono (clone_c e4.out (by assumption)) ?_; rintro e w9 ⟨vc, rfl, rc, g9⟩)
        | (go_at_call 17; go_split_ands; refine Calls.mono (same_c e5.out (by assumption) (by assumption)) ?_; rintro e w9 ⟨rfl, g9⟩)
        | (go_at_call 17; go_split_ands; refine Calls.mono (same_a e5.out (by assumption)) ?_; rintro e w9 ⟨rfl, g9⟩))) | fail "no way"
    all_goals (go_wp2; go_ret; go_split_ands; exact ⟨rfl, Fin8.gr (by assumption)⟩)
end Go.Proofs.YtnabebdceaoiiaaGreatDoor
