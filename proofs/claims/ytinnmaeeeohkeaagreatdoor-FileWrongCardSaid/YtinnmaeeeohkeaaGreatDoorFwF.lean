/- FileWrong: what file.check tells. Own work. -/
import Derived.Test.YtinnmaeeeohkeaaGreatDoorFwE
namespace Go.Proofs.YtinnmaeeeohkeaaGreatDoor
open Go Go.RowKit Go.Me
set_option linter.unusedVariables false
set_option linter.unusedSimpArgs false
set_option maxRecDepth 100000

/-- what stands while file.check runs -/
structure Chk (X : List Nat) (St : World → Prop) (W w : World) (tc oc : List Value) : Prop where
  bt : Box6 w 28 W.heap.size tc
  bo : Box6 w 23 (W.heap.size + 1) oc
  st : St w
  mov : Mov X W w
section
variable {X : List Nat} {St : World → Prop} {W w w' : World} {tc oc : List Value}
theorem Chk.mv (h : Chk X St W w tc oc) (hX : ∀ x ∈ X, x < W.heap.size) (m : Mov X w w') (s : St w') : Chk X St W w' tc oc :=
  ⟨m.box6 h.bt fun hm => by have := hX _ hm; omega, m.box6 h.bo fun hm => by have := hX _ hm; omega, s, h.mov.trans m⟩
theorem Chk.grown (h : Chk X St W w tc oc) (hX : ∀ x ∈ X, x < W.heap.size) (hSt : ∀ a b, St a → a.grownBy b none → St b) (g : w.grownBy w' none) : Chk X St W w' tc oc := h.mv hX (.grown g) (hSt _ _ h.st g)
theorem Chk.all {t0 t1 t2 t3 t4 t5 o0 o1 o2 o3 o4 o5 : Value} (h : Chk X St W w [t0, t1, t2, t3, t4, t5] [o0, o1, o2, o3, o4, o5]) :
    w.cell? ⟨W.heap.size, 0, none⟩ = some (t0) ∧ w.cell? ⟨W.heap.size, 1, none⟩ = some (t1) ∧ w.cell? ⟨W.heap.size, 2, none⟩ = some (t2) ∧ w.cell? ⟨W.heap.size, 3, none⟩ = some (t3) ∧ w.cell? ⟨W.heap.size, 4, none⟩ = some (t4) ∧ w.cell? ⟨W.heap.size, 5, none⟩ = some (t5) ∧ w.cell? ⟨W.heap.size + 1, 0, none⟩ = some (o0) ∧ w.cell? ⟨W.heap.size + 1, 1, none⟩ = some (o1) ∧ w.cell? ⟨W.heap.size + 1, 2, none⟩ = some (o2) ∧ w.cell? ⟨W.heap.size + 1, 3, none⟩ = some (o3) ∧ w.cell? ⟨W.heap.size + 1, 4, none⟩ = some (o4) ∧ w.cell? ⟨W.heap.size + 1, 5, none⟩ = some (o5) ∧ Chk X St W w [t0, t1, t2, t3, t4, t5] [o0, o1, o2, o3, o4, o5] := by
  obtain ⟨a0, a1, a2, a3, a4, a5⟩ := h.bt.all
  obtain ⟨b0, b1, b2, b3, b4, b5⟩ := h.bo.all
  exact ⟨a0, a1, a2, a3, a4, a5, b0, b1, b2, b3, b4, b5, h⟩
end
theorem FaultAt.mov {X : List Nat} {w w' : World} {F : Nat} {s : List UInt8} {i g : Int} (h : FaultAt w F s i g) (k : Mov X w w') (hX : F ∉ X) : FaultAt w' F s i g :=
  ⟨(k.block F (Array.getElem?_eq_some_iff.1 h.at_).1 hX).trans h.at_⟩
theorem fault_nil (s : List UInt8) (i g : Int) (hg : g = 0) (w : World) : Calls Tryz.prog 22 #[.string ⟨s.toArray⟩, .int .i64 i, .int .i64 g] w fun e w' => e = .returned .nilIface ∧ w.grownBy w' none := by
  refine (fault_calls s i g w).mono ?_
  rintro e w' ⟨v, rfl, h1, h2⟩
  rw [FaultIs, if_pos hg] at h2
  exact ⟨by rw [h2], h1⟩
theorem fault_some (s : List UInt8) (i g : Int) (hg : g ≠ 0) (w : World) : Calls Tryz.prog 22 #[.string ⟨s.toArray⟩, .int .i64 i, .int .i64 g] w fun e w' => ∃ F, e = .returned (.iface 44 (.pointer (some ⟨F, 0, none⟩))) ∧ w.grownBy w' none ∧ w.heap.size ≤ F ∧ FaultAt w' F s i g := by
  refine (fault_calls s i g w).mono ?_
  rintro e w' ⟨v, rfl, h1, h2⟩
  rw [FaultIs, if_neg hg] at h2
  obtain ⟨F, rfl, h3, h4⟩ := h2
  exact ⟨F, rfl, h1, h3, h4⟩
set_option maxHeartbeats 4000000 in
/-- options that may not be are told -/
theorem check_options (X : List Nat) (St : World → Prop) (hSt : ∀ a b, St a → a.grownBy b none → St b) (k0 : Int) (nm kd rs : Value) (ct : Int) (hc : ct = 0) (hT : ∀ w, St w → Calls Tryz.prog 47 #[.agg #[.int .i64 k0, nm, kd, .int .i64 0, .int .i64 0, .int .i64 0]] w fun e w' => e = .returned (.int .i64 ct) ∧ Mov X w w' ∧ St w')
    (a b c d e f : Int) (hg : told a b c d e f ≠ 0) (w : World) (hX : ∀ x ∈ X, x < w.heap.size) (h0 : St w) :
    Calls Tryz.prog 17 #[.agg #[.int .i64 k0, nm, kd, .int .i64 0, .int .i64 0, .int .i64 0], rs, .slice none 0 0, .agg #[.int .i64 a, .int .i64 b, .int .i64 c, .int .i64 d, .int .i64 e, .int .i64 f]] w fun e' w' => ∃ F, e' = .returned (.iface 44 (.pointer (some ⟨F, 0, none⟩))) ∧ Mov X w w' ∧ St w' ∧ w.heap.size ≤ F ∧ FaultAt w' F [111, 112, 116, 105, 111, 110, 115] 0 (told a b c d e f) := by
  have g1 : w.grownBy (w.alloc (.cells #[.int .i64 k0, nm, kd, .int .i64 0, .int .i64 0, .int .i64 0] 28)) none := World.grownBy_alloc _ _ _
  have b1 := (Box6.new w (t := 28) (.int .i64 k0) nm kd (.int .i64 0) (.int .i64 0) (.int .i64 0)).kept (World.grownBy_alloc _ (.cells #[.int .i64 a, .int .i64 b, .int .i64 c, .int .i64 d, .int .i64 e, .int .i64 f] 23) none) (by simp)
  have b2 := Box6.new (w.alloc (.cells #[.int .i64 k0, nm, kd, .int .i64 0, .int .i64 0, .int .i64 0] 28)) (t := 23) (.int .i64 a) (.int .i64 b) (.int .i64 c) (.int .i64 d) (.int .i64 e) (.int .i64 f)
  rw [show (w.alloc (.cells #[.int .i64 k0, nm, kd, .int .i64 0, .int .i64 0, .int .i64 0] 28)).heap.size = w.heap.size + 1 by simp] at b2
  have K0 : Aside (Chk X St w ((w.alloc (.cells #[.int .i64 k0, nm, kd, .int .i64 0, .int .i64 0, .int .i64 0] 28)).alloc (.cells #[.int .i64 a, .int .i64 b, .int .i64 c, .int .i64 d, .int .i64 e, .int .i64 f] 23)) [.int .i64 k0, nm, kd, .int .i64 0, .int .i64 0, .int .i64 0] [.int .i64 a, .int .i64 b, .int .i64 c, .int .i64 d, .int .i64 e, .int .i64 f]) := ⟨b1, b2, hSt _ _ h0 (grown_alloc g1 _), .grown (grown_alloc g1 _)⟩
  clear g1 b1 b2 h0
  replace hT : Aside _ := hT
  replace hSt : Aside _ := hSt
  replace hX : Aside _ := hX
  replace hg : Aside _ := hg
  replace hc : Aside _ := hc
  go_enter Tryz.func17, Tryz.ntmps17
  go_wp2
  have test : (fun w' => w'.cell? ⟨w.heap.size, 0, none⟩ = some (.int .i64 k0) ∧ w'.cell? ⟨w.heap.size, 1, none⟩ = some (nm) ∧ w'.cell? ⟨w.heap.size, 2, none⟩ = some (kd) ∧ w'.cell? ⟨w.heap.size, 3, none⟩ = some (.int .i64 0) ∧ w'.cell? ⟨w.heap.size, 4, none⟩ = some (.int .i64 0) ∧ w'.cell? ⟨w.heap.size, 5, none⟩ = some (.int .i64 0) ∧ w'.cell? ⟨w.heap.size + 1, 0, none⟩ = some (.int .i64 a) ∧ w'.cell? ⟨w.heap.size + 1, 1, none⟩ = some (.int .i64 b) ∧ w'.cell? ⟨w.heap.size + 1, 2, none⟩ = some (.int .i64 c) ∧ w'.cell? ⟨w.heap.size + 1, 3, none⟩ = some (.int .i64 d) ∧ w'.cell? ⟨w.heap.size + 1, 4, none⟩ = some (.int .i64 e) ∧ w'.cell? ⟨w.heap.size + 1, 5, none⟩ = some (.int .i64 f) ∧ Chk X St w w' [.int .i64 k0, nm, kd, .int .i64 0, .int .i64 0, .int .i64 0] [.int .i64 a, .int .i64 b, .int .i64 c, .int .i64 d, .int .i64 e, .int .i64 f]) ((w.alloc (.cells #[.int .i64 k0, nm, kd, .int .i64 0, .int .i64 0, .int .i64 0] 28)).alloc (.cells #[.int .i64 a, .int .i64 b, .int .i64 c, .int .i64 d, .int .i64 e, .int .i64 f] 23)).drew := by
    ((try dsimp only); (try go_split_ands); exact Chk.all (Chk.grown K0.out hX.out hSt.out (grown_drew (grown_refl _ _))))
  refine wp_region_noPanic ?_
  refine wp_region_held_drew (S := (fun w' => w'.cell? ⟨w.heap.size, 0, none⟩ = some (.int .i64 k0) ∧ w'.cell? ⟨w.heap.size, 1, none⟩ = some (nm) ∧ w'.cell? ⟨w.heap.size, 2, none⟩ = some (kd) ∧ w'.cell? ⟨w.heap.size, 3, none⟩ = some (.int .i64 0) ∧ w'.cell? ⟨w.heap.size, 4, none⟩ = some (.int .i64 0) ∧ w'.cell? ⟨w.heap.size, 5, none⟩ = some (.int .i64 0) ∧ w'.cell? ⟨w.heap.size + 1, 0, none⟩ = some (.int .i64 a) ∧ w'.cell? ⟨w.heap.size + 1, 1, none⟩ = some (.int .i64 b) ∧ w'.cell? ⟨w.heap.size + 1, 2, none⟩ = some (.int .i64 c) ∧ w'.cell? ⟨w.heap.size + 1, 3, none⟩ = some (.int .i64 d) ∧ w'.cell? ⟨w.heap.size + 1, 4, none⟩ = some (.int .i64 e) ∧ w'.cell? ⟨w.heap.size + 1, 5, none⟩ = some (.int .i64 f) ∧ Chk X St w w' [.int .i64 k0, nm, kd, .int .i64 0, .int .i64 0, .int .i64 0] [.int .i64 a, .int .i64 b, .int .i64 c, .int .i64 d, .int .i64 e, .int .i64 f])) (by kernel_rfl) test (fun hHeld => ?_)
  refine wpAnyH_take (i := 0) (oi := _) (v := ?_) rfl (by kernel_rfl) (by kernel_rfl) (by kernel_rfl) (fun _ _ _ h => h) (Or.inl ⟨by rfl, ?_⟩) (by assumption) ?_
  rotate_left
  · intro w hSw
    (try dsimp only at hSw)
    go_simp
    (try with_reducible rfl)
  try simp only [Act.put, List.setIfInBounds_toArray, List.set_cons_zero, List.set_cons_succ]
  refine wpAnyH_take (i := 3) (oi := _) (v := ?_) rfl (by kernel_rfl) (by kernel_rfl) (by kernel_rfl) (fun _ _ _ h => h) (Or.inl ⟨by rfl, ?_⟩) (by assumption) ?_
  rotate_left
  · intro w hSw
    (try dsimp only at hSw)
    go_simp
    (try with_reducible rfl)
  try simp only [Act.put, List.setIfInBounds_toArray, List.set_cons_zero, List.set_cons_succ]
  refine wpAnyH_ready (rs := [1]) (by kernel_rfl) (by simp) ?_
  refine AllReadyH.cons (o := _) rfl (fun K hK => ?_) AllReadyH.nil
  go_simp
  go_at_call 46
  refine (optsP _ _ _ _ _ _ _).mono ?_
  rintro e' w1 ⟨rfl, g1⟩
  have K1 := K0.out.grown hX.out hSt.out (grown_trans (grown_drew (grown_refl _ _)) g1)
  refine hK.out _ _ (Chk.all K1) (fun hHeld => ?_)
  clear hK K
  try simp only [Act.put, List.setIfInBounds_toArray, List.set_cons_zero, List.set_cons_succ]
  refine wpAnyH_ready (rs := [2]) (by kernel_rfl) (by simp) ?_
  refine AllReadyH.cons (o := _) rfl (fun K hK => ?_) AllReadyH.nil
  go_simp
  go_at_call 22
  refine (fault_some _ _ _ hg.out _).mono ?_
  rintro e' w2 ⟨F, rfl, g2, hF, hFa⟩
  have K2 := K1.grown hX.out hSt.out g2
  refine hK.out _ _ (Chk.all K2) (fun hHeld => ?_)
  clear hK K
  try simp only [Act.put, List.setIfInBounds_toArray, List.set_cons_zero, List.set_cons_succ]
  refine wpAnyH_ready (rs := [4]) (by kernel_rfl) (by simp) ?_
  refine AllReadyH.cons (o := _) rfl (fun K hK => ?_) AllReadyH.nil
  go_simp
  go_at_call 47
  refine Calls.mono (hT.out _ K2.st) ?_
  rintro e' w3 ⟨rfl, g3, s3⟩
  have K3 := K2.mv hX.out g3 s3
  refine hK.out _ _ (Chk.all K3) (fun hHeld => ?_)
  clear hK K
  try simp only [Act.put, List.setIfInBounds_toArray, List.set_cons_zero, List.set_cons_succ]
  refine wpAnyH_ready (rs := [5]) (by kernel_rfl) (by simp) ?_
  refine AllReadyH.cons (o := _) rfl (fun K hK => ?_) AllReadyH.nil
  go_simp
  go_at_call 22
  refine (fault_nil _ _ _ hc.out _).mono ?_
  rintro e' w4 ⟨rfl, g4⟩
  have K4 := K3.grown hX.out hSt.out g4
  refine hK.out _ _ (Chk.all K4) (fun hHeld => ?_)
  clear hK K
  try simp only [Act.put, List.setIfInBounds_toArray, List.set_cons_zero, List.set_cons_succ]
  refine wpAnyH_ready (rs := [6]) (by kernel_rfl) (by simp) ?_
  refine AllReadyH.cons (o := _) rfl (fun K hK => ?_) AllReadyH.nil
  go_simp
  have K5 := K4.grown hX.out hSt.out (World.grownBy_alloc w4 (.cells #[.iface 44 (.pointer (some ⟨F, 0, none⟩)), .nilIface] 34) none)
  refine hK.out _ _ (Chk.all K5) (fun hHeld => ?_)
  clear hK K
  try simp only [Act.put, List.setIfInBounds_toArray, List.set_cons_zero, List.set_cons_succ]
  refine wpAnyH_ready (rs := [7]) (by kernel_rfl) (by simp) ?_
  refine AllReadyH.cons (o := _) rfl (fun K hK => ?_) AllReadyH.nil
  go_simp
  go_at_call 45
  refine (first_calls w4.heap.size (.iface 44 (.pointer (some ⟨F, 0, none⟩))) (.nilIface) _ (World.alloc_heap_new _ _) (by simp) (by simp)).mono ?_
  rintro e' w6 ⟨rfl, rfl⟩
  refine hK.out _ _ (Chk.all K5) (fun hHeld => ?_)
  clear hK K
  try simp only [Act.put, List.setIfInBounds_toArray, List.set_cons_zero, List.set_cons_succ]
  refine wpAnyH_take (i := 8) (oi := _) (v := ?_) rfl (by kernel_rfl) (by kernel_rfl) (by kernel_rfl) (fun _ _ _ h => h) (Or.inl ⟨by rfl, ?_⟩) (by assumption) ?_
  rotate_left
  · intro w hSw
    (try dsimp only at hSw)
    go_simp
    (try with_reducible rfl)
  try simp only [Act.put, List.setIfInBounds_toArray, List.set_cons_zero, List.set_cons_succ]
  refine wpAnyH_done (by kernel_rfl) ?_ _
  refine NoPanic.normal ?_
  simp only [firstOf]
  have hFX : F ∉ X := fun hm => by
    have q1 := hX.out _ hm
    have q2 := K1.mov.size
    omega
  have hFb : w.heap.size ≤ F := Nat.le_trans K1.mov.size hF
  have hf3 := ((hFa.mov g3 hFX).grown g4).grown (World.grownBy_alloc w4 (.cells #[.iface 44 (.pointer (some ⟨F, 0, none⟩)), .nilIface] 34) none)
  have m5 := K5.mov
  have s5 := K5.st
  replace hf3 : Aside _ := hf3
  replace m5 : Aside _ := m5
  replace s5 : Aside _ := s5
  clear K1 K2 K3 K4 K5 g1 g2 g3 g4 hF hFa s3 hHeld test
  go_wp2
  go_ret
  exact ⟨_, rfl, m5.out, s5.out, hFb, hf3.out⟩
set_option maxHeartbeats 4000000 in
/-- a type that may not be is told -/
theorem check_type (X : List Nat) (St : World → Prop) (hSt : ∀ a b, St a → a.grownBy b none → St b) (k0 : Int) (nm kd rs : Value) (ct : Int) (hc : ct ≠ 0) (hT : ∀ w, St w → Calls Tryz.prog 47 #[.agg #[.int .i64 k0, nm, kd, .int .i64 0, .int .i64 0, .int .i64 0]] w fun e w' => e = .returned (.int .i64 ct) ∧ Mov X w w' ∧ St w')
    (a b c d e f : Int) (hg : told a b c d e f = 0) (w : World) (hX : ∀ x ∈ X, x < w.heap.size) (h0 : St w) :
    Calls Tryz.prog 17 #[.agg #[.int .i64 k0, nm, kd, .int .i64 0, .int .i64 0, .int .i64 0], rs, .slice none 0 0, .agg #[.int .i64 a, .int .i64 b, .int .i64 c, .int .i64 d, .int .i64 e, .int .i64 f]] w fun e' w' => ∃ F, e' = .returned (.iface 44 (.pointer (some ⟨F, 0, none⟩))) ∧ Mov X w w' ∧ St w' ∧ w.heap.size ≤ F ∧ FaultAt w' F [116, 121, 112, 101] 0 ct := by
  have g1 : w.grownBy (w.alloc (.cells #[.int .i64 k0, nm, kd, .int .i64 0, .int .i64 0, .int .i64 0] 28)) none := World.grownBy_alloc _ _ _
  have b1 := (Box6.new w (t := 28) (.int .i64 k0) nm kd (.int .i64 0) (.int .i64 0) (.int .i64 0)).kept (World.grownBy_alloc _ (.cells #[.int .i64 a, .int .i64 b, .int .i64 c, .int .i64 d, .int .i64 e, .int .i64 f] 23) none) (by simp)
  have b2 := Box6.new (w.alloc (.cells #[.int .i64 k0, nm, kd, .int .i64 0, .int .i64 0, .int .i64 0] 28)) (t := 23) (.int .i64 a) (.int .i64 b) (.int .i64 c) (.int .i64 d) (.int .i64 e) (.int .i64 f)
  rw [show (w.alloc (.cells #[.int .i64 k0, nm, kd, .int .i64 0, .int .i64 0, .int .i64 0] 28)).heap.size = w.heap.size + 1 by simp] at b2
  have K0 : Aside (Chk X St w ((w.alloc (.cells #[.int .i64 k0, nm, kd, .int .i64 0, .int .i64 0, .int .i64 0] 28)).alloc (.cells #[.int .i64 a, .int .i64 b, .int .i64 c, .int .i64 d, .int .i64 e, .int .i64 f] 23)) [.int .i64 k0, nm, kd, .int .i64 0, .int .i64 0, .int .i64 0] [.int .i64 a, .int .i64 b, .int .i64 c, .int .i64 d, .int .i64 e, .int .i64 f]) := ⟨b1, b2, hSt _ _ h0 (grown_alloc g1 _), .grown (grown_alloc g1 _)⟩
  clear g1 b1 b2 h0
  replace hT : Aside _ := hT
  replace hSt : Aside _ := hSt
  replace hX : Aside _ := hX
  replace hg : Aside _ := hg
  replace hc : Aside _ := hc
  go_enter Tryz.func17, Tryz.ntmps17
  go_wp2
  have test : (fun w' => w'.cell? ⟨w.heap.size, 0, none⟩ = some (.int .i64 k0) ∧ w'.cell? ⟨w.heap.size, 1, none⟩ = some (nm) ∧ w'.cell? ⟨w.heap.size, 2, none⟩ = some (kd) ∧ w'.cell? ⟨w.heap.size, 3, none⟩ = some (.int .i64 0) ∧ w'.cell? ⟨w.heap.size, 4, none⟩ = some (.int .i64 0) ∧ w'.cell? ⟨w.heap.size, 5, none⟩ = some (.int .i64 0) ∧ w'.cell? ⟨w.heap.size + 1, 0, none⟩ = some (.int .i64 a) ∧ w'.cell? ⟨w.heap.size + 1, 1, none⟩ = some (.int .i64 b) ∧ w'.cell? ⟨w.heap.size + 1, 2, none⟩ = some (.int .i64 c) ∧ w'.cell? ⟨w.heap.size + 1, 3, none⟩ = some (.int .i64 d) ∧ w'.cell? ⟨w.heap.size + 1, 4, none⟩ = some (.int .i64 e) ∧ w'.cell? ⟨w.heap.size + 1, 5, none⟩ = some (.int .i64 f) ∧ Chk X St w w' [.int .i64 k0, nm, kd, .int .i64 0, .int .i64 0, .int .i64 0] [.int .i64 a, .int .i64 b, .int .i64 c, .int .i64 d, .int .i64 e, .int .i64 f]) ((w.alloc (.cells #[.int .i64 k0, nm, kd, .int .i64 0, .int .i64 0, .int .i64 0] 28)).alloc (.cells #[.int .i64 a, .int .i64 b, .int .i64 c, .int .i64 d, .int .i64 e, .int .i64 f] 23)).drew := by
    ((try dsimp only); (try go_split_ands); exact Chk.all (Chk.grown K0.out hX.out hSt.out (grown_drew (grown_refl _ _))))
  refine wp_region_noPanic ?_
  refine wp_region_held_drew (S := (fun w' => w'.cell? ⟨w.heap.size, 0, none⟩ = some (.int .i64 k0) ∧ w'.cell? ⟨w.heap.size, 1, none⟩ = some (nm) ∧ w'.cell? ⟨w.heap.size, 2, none⟩ = some (kd) ∧ w'.cell? ⟨w.heap.size, 3, none⟩ = some (.int .i64 0) ∧ w'.cell? ⟨w.heap.size, 4, none⟩ = some (.int .i64 0) ∧ w'.cell? ⟨w.heap.size, 5, none⟩ = some (.int .i64 0) ∧ w'.cell? ⟨w.heap.size + 1, 0, none⟩ = some (.int .i64 a) ∧ w'.cell? ⟨w.heap.size + 1, 1, none⟩ = some (.int .i64 b) ∧ w'.cell? ⟨w.heap.size + 1, 2, none⟩ = some (.int .i64 c) ∧ w'.cell? ⟨w.heap.size + 1, 3, none⟩ = some (.int .i64 d) ∧ w'.cell? ⟨w.heap.size + 1, 4, none⟩ = some (.int .i64 e) ∧ w'.cell? ⟨w.heap.size + 1, 5, none⟩ = some (.int .i64 f) ∧ Chk X St w w' [.int .i64 k0, nm, kd, .int .i64 0, .int .i64 0, .int .i64 0] [.int .i64 a, .int .i64 b, .int .i64 c, .int .i64 d, .int .i64 e, .int .i64 f])) (by kernel_rfl) test (fun hHeld => ?_)
  refine wpAnyH_take (i := 0) (oi := _) (v := ?_) rfl (by kernel_rfl) (by kernel_rfl) (by kernel_rfl) (fun _ _ _ h => h) (Or.inl ⟨by rfl, ?_⟩) (by assumption) ?_
  rotate_left
  · intro w hSw
    (try dsimp only at hSw)
    go_simp
    (try with_reducible rfl)
  try simp only [Act.put, List.setIfInBounds_toArray, List.set_cons_zero, List.set_cons_succ]
  refine wpAnyH_take (i := 3) (oi := _) (v := ?_) rfl (by kernel_rfl) (by kernel_rfl) (by kernel_rfl) (fun _ _ _ h => h) (Or.inl ⟨by rfl, ?_⟩) (by assumption) ?_
  rotate_left
  · intro w hSw
    (try dsimp only at hSw)
    go_simp
    (try with_reducible rfl)
  try simp only [Act.put, List.setIfInBounds_toArray, List.set_cons_zero, List.set_cons_succ]
  refine wpAnyH_ready (rs := [1]) (by kernel_rfl) (by simp) ?_
  refine AllReadyH.cons (o := _) rfl (fun K hK => ?_) AllReadyH.nil
  go_simp
  go_at_call 46
  refine (optsP _ _ _ _ _ _ _).mono ?_
  rintro e' w1 ⟨rfl, g1⟩
  have K1 := K0.out.grown hX.out hSt.out (grown_trans (grown_drew (grown_refl _ _)) g1)
  refine hK.out _ _ (Chk.all K1) (fun hHeld => ?_)
  clear hK K
  try simp only [Act.put, List.setIfInBounds_toArray, List.set_cons_zero, List.set_cons_succ]
  refine wpAnyH_ready (rs := [2]) (by kernel_rfl) (by simp) ?_
  refine AllReadyH.cons (o := _) rfl (fun K hK => ?_) AllReadyH.nil
  go_simp
  go_at_call 22
  refine (fault_nil _ _ _ hg.out _).mono ?_
  rintro e' w2 ⟨rfl, g2⟩
  have K2 := K1.grown hX.out hSt.out g2
  refine hK.out _ _ (Chk.all K2) (fun hHeld => ?_)
  clear hK K
  try simp only [Act.put, List.setIfInBounds_toArray, List.set_cons_zero, List.set_cons_succ]
  refine wpAnyH_ready (rs := [4]) (by kernel_rfl) (by simp) ?_
  refine AllReadyH.cons (o := _) rfl (fun K hK => ?_) AllReadyH.nil
  go_simp
  go_at_call 47
  refine Calls.mono (hT.out _ K2.st) ?_
  rintro e' w3 ⟨rfl, g3, s3⟩
  have K3 := K2.mv hX.out g3 s3
  refine hK.out _ _ (Chk.all K3) (fun hHeld => ?_)
  clear hK K
  try simp only [Act.put, List.setIfInBounds_toArray, List.set_cons_zero, List.set_cons_succ]
  refine wpAnyH_ready (rs := [5]) (by kernel_rfl) (by simp) ?_
  refine AllReadyH.cons (o := _) rfl (fun K hK => ?_) AllReadyH.nil
  go_simp
  go_at_call 22
  refine (fault_some _ _ _ hc.out _).mono ?_
  rintro e' w4 ⟨F, rfl, g4, hF, hFa⟩
  have K4 := K3.grown hX.out hSt.out g4
  refine hK.out _ _ (Chk.all K4) (fun hHeld => ?_)
  clear hK K
  try simp only [Act.put, List.setIfInBounds_toArray, List.set_cons_zero, List.set_cons_succ]
  refine wpAnyH_ready (rs := [6]) (by kernel_rfl) (by simp) ?_
  refine AllReadyH.cons (o := _) rfl (fun K hK => ?_) AllReadyH.nil
  go_simp
  have K5 := K4.grown hX.out hSt.out (World.grownBy_alloc w4 (.cells #[.nilIface, .iface 44 (.pointer (some ⟨F, 0, none⟩))] 34) none)
  refine hK.out _ _ (Chk.all K5) (fun hHeld => ?_)
  clear hK K
  try simp only [Act.put, List.setIfInBounds_toArray, List.set_cons_zero, List.set_cons_succ]
  refine wpAnyH_ready (rs := [7]) (by kernel_rfl) (by simp) ?_
  refine AllReadyH.cons (o := _) rfl (fun K hK => ?_) AllReadyH.nil
  go_simp
  go_at_call 45
  refine (first_calls w4.heap.size (.nilIface) (.iface 44 (.pointer (some ⟨F, 0, none⟩))) _ (World.alloc_heap_new _ _) (by simp) (by simp)).mono ?_
  rintro e' w6 ⟨rfl, rfl⟩
  refine hK.out _ _ (Chk.all K5) (fun hHeld => ?_)
  clear hK K
  try simp only [Act.put, List.setIfInBounds_toArray, List.set_cons_zero, List.set_cons_succ]
  refine wpAnyH_take (i := 8) (oi := _) (v := ?_) rfl (by kernel_rfl) (by kernel_rfl) (by kernel_rfl) (fun _ _ _ h => h) (Or.inl ⟨by rfl, ?_⟩) (by assumption) ?_
  rotate_left
  · intro w hSw
    (try dsimp only at hSw)
    go_simp
    (try with_reducible rfl)
  try simp only [Act.put, List.setIfInBounds_toArray, List.set_cons_zero, List.set_cons_succ]
  refine wpAnyH_done (by kernel_rfl) ?_ _
  refine NoPanic.normal ?_
  simp only [firstOf]
  have hFb : w.heap.size ≤ F := Nat.le_trans K3.mov.size hF
  have hf3 := hFa.grown (World.grownBy_alloc w4 (.cells #[.nilIface, .iface 44 (.pointer (some ⟨F, 0, none⟩))] 34) none)
  have m5 := K5.mov
  have s5 := K5.st
  replace hf3 : Aside _ := hf3
  replace m5 : Aside _ := m5
  replace s5 : Aside _ := s5
  clear K1 K2 K3 K4 K5 g1 g2 g3 g4 hF hFa s3 hHeld test
  go_wp2
  go_ret
  exact ⟨_, rfl, m5.out, s5.out, hFb, hf3.out⟩
set_option maxHeartbeats 4000000 in
/-- a row that may not be is told -/
theorem check_row (X : List Nat) (St : World → Prop) (hSt : ∀ a b, St a → a.grownBy b none → St b) (k0 : Int) (nm kd rs : Value) (ct : Int) (hc : ct = 0) (hT : ∀ w, St w → Calls Tryz.prog 47 #[.agg #[.int .i64 k0, nm, kd, .int .i64 0, .int .i64 0, .int .i64 0]] w fun e w' => e = .returned (.int .i64 ct) ∧ Mov X w w' ∧ St w') (s : List UInt8) (i : Int) (hR : ∀ w, St w → Calls Tryz.prog 48 #[.agg #[.int .i64 k0, nm, kd, .int .i64 0, .int .i64 0, .int .i64 0], rs] w fun e w' => ∃ u, e = .returned u ∧ w.grownBy w' none ∧ FaultIs w w' s i 1 u)
    (a b c d e f : Int) (hg : told a b c d e f = 0) (w : World) (hX : ∀ x ∈ X, x < w.heap.size) (h0 : St w) :
    Calls Tryz.prog 17 #[.agg #[.int .i64 k0, nm, kd, .int .i64 0, .int .i64 0, .int .i64 0], rs, .slice none 0 0, .agg #[.int .i64 a, .int .i64 b, .int .i64 c, .int .i64 d, .int .i64 e, .int .i64 f]] w fun e' w' => ∃ F, e' = .returned (.iface 44 (.pointer (some ⟨F, 0, none⟩))) ∧ Mov X w w' ∧ St w' ∧ w.heap.size ≤ F ∧ FaultAt w' F s i 1 := by
  have g1 : w.grownBy (w.alloc (.cells #[.int .i64 k0, nm, kd, .int .i64 0, .int .i64 0, .int .i64 0] 28)) none := World.grownBy_alloc _ _ _
  have b1 := (Box6.new w (t := 28) (.int .i64 k0) nm kd (.int .i64 0) (.int .i64 0) (.int .i64 0)).kept (World.grownBy_alloc _ (.cells #[.int .i64 a, .int .i64 b, .int .i64 c, .int .i64 d, .int .i64 e, .int .i64 f] 23) none) (by simp)
  have b2 := Box6.new (w.alloc (.cells #[.int .i64 k0, nm, kd, .int .i64 0, .int .i64 0, .int .i64 0] 28)) (t := 23) (.int .i64 a) (.int .i64 b) (.int .i64 c) (.int .i64 d) (.int .i64 e) (.int .i64 f)
  rw [show (w.alloc (.cells #[.int .i64 k0, nm, kd, .int .i64 0, .int .i64 0, .int .i64 0] 28)).heap.size = w.heap.size + 1 by simp] at b2
  have K0 : Aside (Chk X St w ((w.alloc (.cells #[.int .i64 k0, nm, kd, .int .i64 0, .int .i64 0, .int .i64 0] 28)).alloc (.cells #[.int .i64 a, .int .i64 b, .int .i64 c, .int .i64 d, .int .i64 e, .int .i64 f] 23)) [.int .i64 k0, nm, kd, .int .i64 0, .int .i64 0, .int .i64 0] [.int .i64 a, .int .i64 b, .int .i64 c, .int .i64 d, .int .i64 e, .int .i64 f]) := ⟨b1, b2, hSt _ _ h0 (grown_alloc g1 _), .grown (grown_alloc g1 _)⟩
  clear g1 b1 b2 h0
  replace hT : Aside _ := hT
  replace hSt : Aside _ := hSt
  replace hX : Aside _ := hX
  replace hg : Aside _ := hg
  replace hc : Aside _ := hc
  go_enter Tryz.func17, Tryz.ntmps17
  go_wp2
  have test : (fun w' => w'.cell? ⟨w.heap.size, 0, none⟩ = some (.int .i64 k0) ∧ w'.cell? ⟨w.heap.size, 1, none⟩ = some (nm) ∧ w'.cell? ⟨w.heap.size, 2, none⟩ = some (kd) ∧ w'.cell? ⟨w.heap.size, 3, none⟩ = some (.int .i64 0) ∧ w'.cell? ⟨w.heap.size, 4, none⟩ = some (.int .i64 0) ∧ w'.cell? ⟨w.heap.size, 5, none⟩ = some (.int .i64 0) ∧ w'.cell? ⟨w.heap.size + 1, 0, none⟩ = some (.int .i64 a) ∧ w'.cell? ⟨w.heap.size + 1, 1, none⟩ = some (.int .i64 b) ∧ w'.cell? ⟨w.heap.size + 1, 2, none⟩ = some (.int .i64 c) ∧ w'.cell? ⟨w.heap.size + 1, 3, none⟩ = some (.int .i64 d) ∧ w'.cell? ⟨w.heap.size + 1, 4, none⟩ = some (.int .i64 e) ∧ w'.cell? ⟨w.heap.size + 1, 5, none⟩ = some (.int .i64 f) ∧ Chk X St w w' [.int .i64 k0, nm, kd, .int .i64 0, .int .i64 0, .int .i64 0] [.int .i64 a, .int .i64 b, .int .i64 c, .int .i64 d, .int .i64 e, .int .i64 f]) ((w.alloc (.cells #[.int .i64 k0, nm, kd, .int .i64 0, .int .i64 0, .int .i64 0] 28)).alloc (.cells #[.int .i64 a, .int .i64 b, .int .i64 c, .int .i64 d, .int .i64 e, .int .i64 f] 23)).drew := by
    ((try dsimp only); (try go_split_ands); exact Chk.all (Chk.grown K0.out hX.out hSt.out (grown_drew (grown_refl _ _))))
  refine wp_region_noPanic ?_
  refine wp_region_held_drew (S := (fun w' => w'.cell? ⟨w.heap.size, 0, none⟩ = some (.int .i64 k0) ∧ w'.cell? ⟨w.heap.size, 1, none⟩ = some (nm) ∧ w'.cell? ⟨w.heap.size, 2, none⟩ = some (kd) ∧ w'.cell? ⟨w.heap.size, 3, none⟩ = some (.int .i64 0) ∧ w'.cell? ⟨w.heap.size, 4, none⟩ = some (.int .i64 0) ∧ w'.cell? ⟨w.heap.size, 5, none⟩ = some (.int .i64 0) ∧ w'.cell? ⟨w.heap.size + 1, 0, none⟩ = some (.int .i64 a) ∧ w'.cell? ⟨w.heap.size + 1, 1, none⟩ = some (.int .i64 b) ∧ w'.cell? ⟨w.heap.size + 1, 2, none⟩ = some (.int .i64 c) ∧ w'.cell? ⟨w.heap.size + 1, 3, none⟩ = some (.int .i64 d) ∧ w'.cell? ⟨w.heap.size + 1, 4, none⟩ = some (.int .i64 e) ∧ w'.cell? ⟨w.heap.size + 1, 5, none⟩ = some (.int .i64 f) ∧ Chk X St w w' [.int .i64 k0, nm, kd, .int .i64 0, .int .i64 0, .int .i64 0] [.int .i64 a, .int .i64 b, .int .i64 c, .int .i64 d, .int .i64 e, .int .i64 f])) (by kernel_rfl) test (fun hHeld => ?_)
  refine wpAnyH_take (i := 0) (oi := _) (v := ?_) rfl (by kernel_rfl) (by kernel_rfl) (by kernel_rfl) (fun _ _ _ h => h) (Or.inl ⟨by rfl, ?_⟩) (by assumption) ?_
  rotate_left
  · intro w hSw
    (try dsimp only at hSw)
    go_simp
    (try with_reducible rfl)
  try simp only [Act.put, List.setIfInBounds_toArray, List.set_cons_zero, List.set_cons_succ]
  refine wpAnyH_take (i := 3) (oi := _) (v := ?_) rfl (by kernel_rfl) (by kernel_rfl) (by kernel_rfl) (fun _ _ _ h => h) (Or.inl ⟨by rfl, ?_⟩) (by assumption) ?_
  rotate_left
  · intro w hSw
    (try dsimp only at hSw)
    go_simp
    (try with_reducible rfl)
  try simp only [Act.put, List.setIfInBounds_toArray, List.set_cons_zero, List.set_cons_succ]
  refine wpAnyH_ready (rs := [1]) (by kernel_rfl) (by simp) ?_
  refine AllReadyH.cons (o := _) rfl (fun K hK => ?_) AllReadyH.nil
  go_simp
  go_at_call 46
  refine (optsP _ _ _ _ _ _ _).mono ?_
  rintro e' w1 ⟨rfl, g1⟩
  have K1 := K0.out.grown hX.out hSt.out (grown_trans (grown_drew (grown_refl _ _)) g1)
  refine hK.out _ _ (Chk.all K1) (fun hHeld => ?_)
  clear hK K
  try simp only [Act.put, List.setIfInBounds_toArray, List.set_cons_zero, List.set_cons_succ]
  refine wpAnyH_ready (rs := [2]) (by kernel_rfl) (by simp) ?_
  refine AllReadyH.cons (o := _) rfl (fun K hK => ?_) AllReadyH.nil
  go_simp
  go_at_call 22
  refine (fault_nil _ _ _ hg.out _).mono ?_
  rintro e' w2 ⟨rfl, g2⟩
  have K2 := K1.grown hX.out hSt.out g2
  refine hK.out _ _ (Chk.all K2) (fun hHeld => ?_)
  clear hK K
  try simp only [Act.put, List.setIfInBounds_toArray, List.set_cons_zero, List.set_cons_succ]
  refine wpAnyH_ready (rs := [4]) (by kernel_rfl) (by simp) ?_
  refine AllReadyH.cons (o := _) rfl (fun K hK => ?_) AllReadyH.nil
  go_simp
  go_at_call 47
  refine Calls.mono (hT.out _ K2.st) ?_
  rintro e' w3 ⟨rfl, g3, s3⟩
  have K3 := K2.mv hX.out g3 s3
  refine hK.out _ _ (Chk.all K3) (fun hHeld => ?_)
  clear hK K
  try simp only [Act.put, List.setIfInBounds_toArray, List.set_cons_zero, List.set_cons_succ]
  refine wpAnyH_ready (rs := [5]) (by kernel_rfl) (by simp) ?_
  refine AllReadyH.cons (o := _) rfl (fun K hK => ?_) AllReadyH.nil
  go_simp
  go_at_call 22
  refine (fault_nil _ _ _ hc.out _).mono ?_
  rintro e' w4 ⟨rfl, g4⟩
  have K4 := K3.grown hX.out hSt.out g4
  refine hK.out _ _ (Chk.all K4) (fun hHeld => ?_)
  clear hK K
  try simp only [Act.put, List.setIfInBounds_toArray, List.set_cons_zero, List.set_cons_succ]
  refine wpAnyH_ready (rs := [6]) (by kernel_rfl) (by simp) ?_
  refine AllReadyH.cons (o := _) rfl (fun K hK => ?_) AllReadyH.nil
  go_simp
  have K5 := K4.grown hX.out hSt.out (World.grownBy_alloc w4 (.cells #[.nilIface, .nilIface] 34) none)
  refine hK.out _ _ (Chk.all K5) (fun hHeld => ?_)
  clear hK K
  try simp only [Act.put, List.setIfInBounds_toArray, List.set_cons_zero, List.set_cons_succ]
  refine wpAnyH_ready (rs := [7]) (by kernel_rfl) (by simp) ?_
  refine AllReadyH.cons (o := _) rfl (fun K hK => ?_) AllReadyH.nil
  go_simp
  go_at_call 45
  refine (first_calls w4.heap.size (.nilIface) (.nilIface) _ (World.alloc_heap_new _ _) (by simp) (by simp)).mono ?_
  rintro e' w6 ⟨rfl, rfl⟩
  refine hK.out _ _ (Chk.all K5) (fun hHeld => ?_)
  clear hK K
  try simp only [Act.put, List.setIfInBounds_toArray, List.set_cons_zero, List.set_cons_succ]
  refine wpAnyH_take (i := 8) (oi := _) (v := ?_) rfl (by kernel_rfl) (by kernel_rfl) (by kernel_rfl) (fun _ _ _ h => h) (Or.inl ⟨by rfl, ?_⟩) (by assumption) ?_
  rotate_left
  · intro w hSw
    (try dsimp only at hSw)
    go_simp
    (try with_reducible rfl)
  try simp only [Act.put, List.setIfInBounds_toArray, List.set_cons_zero, List.set_cons_succ]
  refine wpAnyH_done (by kernel_rfl) ?_ _
  refine NoPanic.normal ?_
  simp only [firstOf]
  obtain ⟨w5, hw5⟩ : ∃ w5, w4.alloc (.cells #[.nilIface, .nilIface] 34) = w5 := ⟨_, rfl⟩
  rw [hw5] at K5 ⊢
  obtain ⟨t0, t1, t2, t3, t4, t5, -⟩ := Chk.all K5
  replace hR : Aside _ := hR
  replace K5 : Aside _ := K5
  clear K1 K2 K3 K4 g1 g2 g3 g4 s3 hHeld test hw5
  go_wp2_with (first
    | (go_at_call 48; go_must (
        refine Calls.mono (hR.out _ K5.out.st) ?_; rintro e' w7 ⟨u, rfl, g7, hu⟩
        rw [FaultIs, if_neg (by decide)] at hu
        obtain ⟨F, rfl, hF, hFa⟩ := hu
        have K7 := K5.out.grown hX.out hSt.out g7
        have hFb : w.heap.size ≤ F := Nat.le_trans K5.out.mov.size hF
        replace K7 : Aside _ := K7
        replace hFa : Aside _ := hFa
        replace hFb : Aside _ := hFb
        clear g7 hF K5 t0 t1 t2 t3 t4 t5))
    | (go_at_call 49; go_must (
        refine (pairs_calls _).mono ?_; rintro e' w8 ⟨rfl, g8⟩
        have K8 := K7.out.grown hX.out hSt.out (grown_alloc g8 (.cells #[.iface 44 (.pointer (some ⟨F, 0, none⟩)), .nilIface] 34))
        have hF8 := hFa.out.grown (grown_alloc g8 (.cells #[.iface 44 (.pointer (some ⟨F, 0, none⟩)), .nilIface] 34))
        replace K8 : Aside _ := K8
        replace hF8 : Aside _ := hF8
        clear g8 K7 hFa))
    | (go_at_call 45; go_must (
        refine (first_calls w8.heap.size (.iface 44 (.pointer (some ⟨F, 0, none⟩))) .nilIface _ (World.alloc_heap_new _ _) (by simp) (by simp)).mono ?_
        rintro e' w9 ⟨rfl, rfl⟩
        simp only [firstOf]))
    | go_in)
  go_ret
  exact ⟨_, rfl, K8.out.mov, K8.out.st, hFb.out, hF8.out⟩
end Go.Proofs.YtinnmaeeeohkeaaGreatDoor
