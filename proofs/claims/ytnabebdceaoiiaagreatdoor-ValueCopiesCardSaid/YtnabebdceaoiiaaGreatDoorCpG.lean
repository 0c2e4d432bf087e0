/- The law ValueCopies, walked: the whole. -/
import Derived.Test.YtnabebdceaoiiaaGreatDoorCpF
namespace Go.Proofs.YtnabebdceaoiiaaGreatDoor
open Go Go.Ev Go.RowKit
set_option linter.unusedVariables false
set_option linter.unusedSimpArgs false

set_option maxRecDepth 100000 in
set_option maxHeartbeats 1000000 in
theorem fy (t : Ty) (v : Va) (ht : tyIn t) (hv : okV v) (hbad : rightT t = false ∨ fewVB v = false ∨ rightT t = true ∧ rchkV t v ≠ 0) (w : World) (t0 t1 t2 t3 t4 t5 v0 v1 v2 v3 v4 : Value) (k0 : Rd anyB w (.agg #[t0, t1, t2, t3, t4, t5]) t.d) (k1 : Rd anyB w (.agg #[v0, v1, v2, v3, v4]) v.d) (hg : Holds w) :
    Calls Tryz.prog 5 #[.agg #[t0, t1, t2, t3, t4, t5], .agg #[v0, v1, v2, v3, v4]] w fun e w' => e = .returned (.bool true) ∧ w.grownBy w' none := by
  have e1 := fo t (ht _)
  have e2 := law14_Few_ans v
  have e3 : rightT t = true → evL cfg n_ab 0 [.d t.d, .d v.d] [] = some (.d (.int .i64 (rchkV t v)), []) := fun h => ref14_Check_ans _ v t (Nat.le_refl _) hv (nf h _)
  have gA : w.grownBy (w.alloc (.cells #[t0, t1, t2, t3, t4, t5] 25)) none := World.grownBy_alloc _ _ _
  have gB : w.grownBy ((w.alloc (.cells #[t0, t1, t2, t3, t4, t5] 25)).alloc (.cells #[v0, v1, v2, v3, v4] 29)) none := gA.trans (World.grownBy_alloc _ _ _)
  have b1 := (BoxT6.new w t0 t1 t2 t3 t4 t5).kept (World.grownBy_alloc (w.alloc (.cells #[t0, t1, t2, t3, t4, t5] 25)) (.cells #[v0, v1, v2, v3, v4] 29) none) (by simp)
  have b2 := BoxV.new (w.alloc (.cells #[t0, t1, t2, t3, t4, t5] 25)) v0 v1 v2 v3 v4
  have hz1 : (w.alloc (.cells #[t0, t1, t2, t3, t4, t5] 25)).heap.size = w.heap.size + 1 := by simp
  rw [hz1] at b2
  have s0 : Aside (Sta ((w.alloc (.cells #[t0, t1, t2, t3, t4, t5] 25)).alloc (.cells #[v0, v1, v2, v3, v4] 29)) w.heap.size (w.heap.size + 1) t0 t1 t2 t3 t4 t5 v0 v1 v2 v3 v4 t v) := ⟨b1, b2, bh k0 gB, bh k1 gB, hg.grown gB⟩
  replace gB : Aside _ := gB
  replace e1 : Aside _ := e1
  replace e2 : Aside _ := e2
  replace e3 : Aside _ := e3
  clear gA b1 b2 hz1 k0 k1 hg
  cases hR : rightT t with
  | false =>
    go_enter Tryz.func5, Tryz.ntmps5
    go_wp2_with (first
      | (go_at_call 10; go_must (
         refine Calls.mono (a7 Tryz.func10 (by kernel_rfl) (by kernel_rfl) [] kp rfl (fun i v d h => by simp at h) s0.out.ho) ?_
         rintro e w1 ⟨rfl, g1⟩
         have s1 := s0.out.grown g1
         obtain ⟨m0, m1, m2, m3, m4, m5, _⟩ := s1.cells
         have h1 := gB.out.trans g1
         replace s1 : Aside _ := s1
         replace h1 : Aside _ := h1
         clear g1 s0 gB))
      | (go_at_call 11; go_must (
         refine Calls.mono (a7 Tryz.func11 (by kernel_rfl) (by kernel_rfl) [t.d] e1.out rfl (iw s1.out.rt) s1.out.ho) ?_
         rintro e w2 ⟨rfl, g2⟩
         rw [hR]
         have h2 : Aside (w.grownBy w2 none) := h1.out.trans g2
         clear g2 s1 h1))
      | go_in)
    go_ret
    exact ⟨rfl, h2⟩
  | true =>
  cases hF : fewVB v with
  | false =>
    go_enter Tryz.func5, Tryz.ntmps5
    go_wp2_with (first
      | (go_at_call 10; go_must (
         refine Calls.mono (a7 Tryz.func10 (by kernel_rfl) (by kernel_rfl) [] kp rfl (fun i v d h => by simp at h) s0.out.ho) ?_
         rintro e w1 ⟨rfl, g1⟩
         have s1 := s0.out.grown g1
         obtain ⟨m0, m1, m2, m3, m4, m5, _⟩ := s1.cells
         have h1 := gB.out.trans g1
         replace s1 : Aside _ := s1
         replace h1 : Aside _ := h1
         clear g1 s0 gB))
      | (go_at_call 11; go_must (
         refine Calls.mono (a7 Tryz.func11 (by kernel_rfl) (by kernel_rfl) [t.d] e1.out rfl (iw s1.out.rt) s1.out.ho) ?_
         rintro e w2 ⟨rfl, g2⟩
         rw [hR]
         have s2 := s1.out.grown g2
         have h2 : Aside (w.grownBy w2 none) := h1.out.trans g2
         clear m0 m1 m2 m3 m4 m5
         obtain ⟨_, _, _, _, _, _, n0, n1, n2, n3, n4⟩ := s2.cells
         replace s2 : Aside _ := s2
         clear g2 s1 h1))
      | (go_at_call 12; go_must (
         refine Calls.mono (a7 Tryz.func12 (by kernel_rfl) (by kernel_rfl) [v.d] e2.out rfl (iw s2.out.rv) s2.out.ho) ?_
         rintro e w3 ⟨rfl, g3⟩
         rw [hF]
         have s3 := s2.out.grown g3
         have h3 : Aside (w.grownBy w3 none) := h2.out.trans g3
         clear n0 n1 n2 n3 n4
         obtain ⟨p0, p1, p2, p3, p4, p5, p6, p7, p8, p9, p10⟩ := s3.cells
         replace s3 : Aside _ := s3
         clear g3 s2 h2))
      | go_in)
    go_ret
    exact ⟨rfl, h3⟩
  | true =>
    have hne : (rchkV t v != 0) = true := by
      rcases hbad with h | h | ⟨_, h⟩
      · rw [hR] at h; cases h
      · rw [hF] at h; cases h
      · simpa using h
    have hne2 : rchkV t v ≠ 0 := by simpa using hne
    generalize rchkV t v = q at *
    go_enter Tryz.func5, Tryz.ntmps5
    go_wp2_with (first
      | (go_at_call 10; go_must (
         refine Calls.mono (a7 Tryz.func10 (by kernel_rfl) (by kernel_rfl) [] kp rfl (fun i v d h => by simp at h) s0.out.ho) ?_
         rintro e w1 ⟨rfl, g1⟩
         have s1 := s0.out.grown g1
         obtain ⟨m0, m1, m2, m3, m4, m5, _⟩ := s1.cells
         have h1 := gB.out.trans g1
         replace s1 : Aside _ := s1
         replace h1 : Aside _ := h1
         clear g1 s0 gB))
      | (go_at_call 11; go_must (
         refine Calls.mono (a7 Tryz.func11 (by kernel_rfl) (by kernel_rfl) [t.d] e1.out rfl (iw s1.out.rt) s1.out.ho) ?_
         rintro e w2 ⟨rfl, g2⟩
         rw [hR]
         have s2 := s1.out.grown g2
         have h2 : Aside (w.grownBy w2 none) := h1.out.trans g2
         clear m0 m1 m2 m3 m4 m5
         obtain ⟨_, _, _, _, _, _, n0, n1, n2, n3, n4⟩ := s2.cells
         replace s2 : Aside _ := s2
         clear g2 s1 h1))
      | (go_at_call 12; go_must (
         refine Calls.mono (a7 Tryz.func12 (by kernel_rfl) (by kernel_rfl) [v.d] e2.out rfl (iw s2.out.rv) s2.out.ho) ?_
         rintro e w3 ⟨rfl, g3⟩
         rw [hF]
         have s3 := s2.out.grown g3
         have h3 : Aside (w.grownBy w3 none) := h2.out.trans g3
         clear n0 n1 n2 n3 n4
         obtain ⟨p0, p1, p2, p3, p4, p5, p6, p7, p8, p9, p10⟩ := s3.cells
         replace s3 : Aside _ := s3
         clear g3 s2 h2))
      | (go_at_call 13; go_must (
         refine Calls.mono (ah6 Tryz.func13 (by kernel_rfl) (by kernel_rfl) [t.d, v.d] (e3.out hR) rfl (abg s3.out.rt s3.out.rv) s3.out.ho) ?_
         rintro e w4 ⟨rfl, g4⟩
         have s4 := s3.out.grown g4
         have h4 : Aside (w.grownBy w4 none) := h3.out.trans g4
         clear p0 p1 p2 p3 p4 p5 p6 p7 p8 p9 p10
         obtain ⟨_, _, _, _, _, _, q0, q1, q2, q3, q4⟩ := s4.cells
         replace s4 : Aside _ := s4
         clear g4 s3 h3))
      | go_in)
    go_ret
    exact ⟨rfl, h4⟩
end Go.Proofs.YtnabebdceaoiiaaGreatDoor
