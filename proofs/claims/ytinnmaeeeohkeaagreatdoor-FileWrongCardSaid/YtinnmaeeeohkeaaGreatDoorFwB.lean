/- FileWrong: what value.Check tells of a row of one number: the function itself. Own work. -/
import Derived.Test.YtinnmaeeeohkeaaGreatDoorFwA
namespace Go.Proofs.YtinnmaeeeohkeaaGreatDoor
open Go Go.RowKit
set_option linter.unusedVariables false
set_option linter.unusedSimpArgs false
set_option maxRecDepth 100000

/-- a row's number lies at K; its type at T -/
structure KidAt (w : World) (K : Nat) (x : Int) : Prop where
  c0 : w.cell? ⟨K, 0, none⟩ = some (.bool false)
  c1 : w.cell? ⟨K, 1, none⟩ = some (.int .i64 x)
  c2 : w.cell? ⟨K, 2, none⟩ = some (.int .i64 0)
  c3 : w.cell? ⟨K, 3, none⟩ = some (.slice none 0 0)
  c4 : w.cell? ⟨K, 4, none⟩ = some (.slice none 0 0)
structure TyAt (w : World) (T : Nat) : Prop where
  c0 : w.cell? ⟨T, 0, none⟩ = some (.int .i64 1)
  c1 : w.cell? ⟨T, 1, none⟩ = some (.slice none 0 0)
  c2 : w.cell? ⟨T, 2, none⟩ = some (.slice none 0 0)
  c3 : w.cell? ⟨T, 3, none⟩ = some (.int .i64 0)
  c4 : w.cell? ⟨T, 4, none⟩ = some (.int .i64 0)
  c5 : w.cell? ⟨T, 5, none⟩ = some (.int .i64 0)
theorem KidAt.grown {w w' : World} {K : Nat} {x : Int} (h : KidAt w K x) (g : w.grownBy w' none) : KidAt w' K x :=
  ⟨g.cell h.c0 (by simp), g.cell h.c1 (by simp), g.cell h.c2 (by simp), g.cell h.c3 (by simp), g.cell h.c4 (by simp)⟩
theorem TyAt.grown {w w' : World} {K : Nat} (h : TyAt w K) (g : w.grownBy w' none) : TyAt w' K :=
  ⟨g.cell h.c0 (by simp), g.cell h.c1 (by simp), g.cell h.c2 (by simp), g.cell h.c3 (by simp), g.cell h.c4 (by simp), g.cell h.c5 (by simp)⟩

/-- boxes of five and of six cells -/
structure Box5 (w : World) (g : Nat) (cs : List Value) : Prop where
  row : w.ownsRow 0 32 5 (.slice (some ⟨g, 0, none⟩) 1 1) 1 cs
structure Box6 (w : World) (t g : Nat) (cs : List Value) : Prop where
  row : w.ownsRow 0 t 6 (.slice (some ⟨g, 0, none⟩) 1 1) 1 cs
theorem Box5.kept {w w' : World} {g : Nat} {cs : List Value} {row : Option Nat} (h : Box5 w g cs) (k : w.grownBy w' row) (hr : row ≠ some g) : Box5 w' g cs := ⟨World.ownsRow.kept h.row k (.inr fun e => hr e.symm)⟩
theorem Box6.kept {w w' : World} {t g : Nat} {cs : List Value} {row : Option Nat} (h : Box6 w t g cs) (k : w.grownBy w' row) (hr : row ≠ some g) : Box6 w' t g cs := ⟨World.ownsRow.kept h.row k (.inr fun e => hr e.symm)⟩
theorem Box5.new (w : World) (c0 c1 c2 c3 c4 : Value) : Box5 (w.alloc (.cells #[c0, c1, c2, c3, c4] 32)) w.heap.size [c0, c1, c2, c3, c4] := ⟨World.ownsRow_lit w #[c0, c1, c2, c3, c4] 1 (Nat.zero_le _) (by decide) rfl⟩
theorem Box6.new (w : World) {t : Nat} (c0 c1 c2 c3 c4 c5 : Value) : Box6 (w.alloc (.cells #[c0, c1, c2, c3, c4, c5] t)) t w.heap.size [c0, c1, c2, c3, c4, c5] := ⟨World.ownsRow_lit w #[c0, c1, c2, c3, c4, c5] 1 (Nat.zero_le _) (by decide) rfl⟩
theorem Box5.all {w : World} {g : Nat} {c0 c1 c2 c3 c4 : Value} (h : Box5 w g [c0, c1, c2, c3, c4]) : w.cell? ⟨g, 0, none⟩ = some c0 ∧ w.cell? ⟨g, 1, none⟩ = some c1 ∧ w.cell? ⟨g, 2, none⟩ = some c2 ∧ w.cell? ⟨g, 3, none⟩ = some c3 ∧ w.cell? ⟨g, 4, none⟩ = some c4 := by
  have := World.ownsRow.cellAt h.row
  exact ⟨this 0 (by omega), this 1 (by omega), this 2 (by omega), this 3 (by omega), this 4 (by omega)⟩
theorem Box6.all {w : World} {t g : Nat} {c0 c1 c2 c3 c4 c5 : Value} (h : Box6 w t g [c0, c1, c2, c3, c4, c5]) : w.cell? ⟨g, 0, none⟩ = some c0 ∧ w.cell? ⟨g, 1, none⟩ = some c1 ∧ w.cell? ⟨g, 2, none⟩ = some c2 ∧ w.cell? ⟨g, 3, none⟩ = some c3 ∧ w.cell? ⟨g, 4, none⟩ = some c4 ∧ w.cell? ⟨g, 5, none⟩ = some c5 := by
  have := World.ownsRow.cellAt h.row
  exact ⟨this 0 (by omega), this 1 (by omega), this 2 (by omega), this 3 (by omega), this 4 (by omega), this 5 (by omega)⟩

theorem kidR (n : Value) (T : Nat) (k : Value) (w : World) (ht : TyAt w T) : Calls Tryz.prog 93 #[tyS n (.slice (some ⟨T, 0, none⟩) 1 1), vaR k, .int .i64 0] w fun e w' => e = .returned (.tuple #[tyB, .bool true]) ∧ w.grownBy w' none := by
  have g3 : w.grownBy (((w.alloc (.cells #[.int .i64 12, n, .slice (some ⟨T, 0, none⟩) 1 1, .int .i64 0, .int .i64 0, .int .i64 0] 28)).alloc (.cells #[.bool false, .int .i64 0, .int .i64 0, .slice none 0 0, k] 32)).alloc (.cells #[.int .i64 0, .slice none 0 0, .slice none 0 0, .int .i64 0, .int .i64 0, .int .i64 0] 28)) none := grown_alloc (grown_alloc (World.grownBy_alloc _ _ _) _) _
  obtain ⟨c0, c1, c2, c3, c4, c5⟩ := ht.grown g3
  replace g3 : Aside _ := g3
  clear ht
  go_enter Tryz.func93, Tryz.ntmps93
  go_wp2
  refine bodyPost_ret (v := .tuple #[tyB, .bool true]) (by simp [results, Tryz.results93, go_sem]) rfl ⟨rfl, ?_⟩
  exact grown_alloc (grown_alloc (World.grownBy_alloc _ _ _) _) _
/-- what is told of a number -/
def fits (x : Int) : Int := if -128 ≤ x ∧ x ≤ 127 then 0 else 1
theorem checkI (x : Int) (w : World) : Calls Tryz.prog 95 #[tyB, vaI x] w fun e w' => e = .returned (.int .i64 (fits x)) ∧ w.grownBy w' none := by
  have g2 : Aside (w.grownBy ((w.alloc (.cells #[.int .i64 1, .slice none 0 0, .slice none 0 0, .int .i64 0, .int .i64 0, .int .i64 0] 28)).alloc (.cells #[.bool false, .int .i64 x, .int .i64 0, .slice none 0 0, .slice none 0 0] 32)) none) := grown_trans (World.grownBy_alloc _ _ _) (World.grownBy_alloc _ _ _)
  have b1 := (Box6.new w (t := 28) (.int .i64 1) (.slice none 0 0) (.slice none 0 0) (.int .i64 0) (.int .i64 0) (.int .i64 0)).kept (World.grownBy_alloc _ (.cells #[.bool false, .int .i64 x, .int .i64 0, .slice none 0 0, .slice none 0 0] 32) none) (by simp)
  have b2 := Box5.new (w.alloc (.cells #[.int .i64 1, .slice none 0 0, .slice none 0 0, .int .i64 0, .int .i64 0, .int .i64 0] 28)) (.bool false) (.int .i64 x) (.int .i64 0) (.slice none 0 0) (.slice none 0 0)
  rw [show (w.alloc (.cells #[.int .i64 1, .slice none 0 0, .slice none 0 0, .int .i64 0, .int .i64 0, .int .i64 0] 28)).heap.size = w.heap.size + 1 by simp] at b2
  replace b1 : Aside _ := b1
  replace b2 : Aside _ := b2
  cases hx : decide (-128 ≤ x ∧ x ≤ 127) with
  | false =>
      go_enter Tryz.func95, Tryz.ntmps95
      go_wp2_with (first
        | (go_at_call 166; go_must (
            refine (namedI _ _).mono ?_; rintro e' w1 ⟨rfl, h1⟩
            have G1 := grown_trans g2.out h1
            have B1 := b1.out.kept h1 (by simp)
            have B2 := b2.out.kept h1 (by simp)
            obtain ⟨p0, p1, p2, p3, p4, p5⟩ := B1.all
            obtain ⟨q0, q1, q2, q3, q4⟩ := B2.all
            replace G1 : Aside _ := G1
            replace B1 : Aside _ := B1
            replace B2 : Aside _ := B2
            clear h1 b1 b2 g2))
        | (go_at_call 167; go_must (
            refine (numberI _ _).mono ?_; rintro e' w2 ⟨rfl, h2⟩; rw [hx]
            have G2 := grown_trans G1.out h2
            have C1 := B1.out.kept h2 (by simp)
            have C2 := B2.out.kept h2 (by simp)
            clear p0 p1 p2 p3 p4 p5 q0 q1 q2 q3 q4
            obtain ⟨p0, p1, p2, p3, p4, p5⟩ := C1.all
            obtain ⟨q0, q1, q2, q3, q4⟩ := C2.all
            replace G2 : Aside _ := G2
            replace C1 : Aside _ := C1
            replace C2 : Aside _ := C2
            clear h2 B1 B2 G1))
        | (go_at_call 168; go_must (
            refine (longI _ _).mono ?_; rintro e' w3 ⟨rfl, h3⟩
            have G3 := grown_trans G2.out h3
            have D1 := C1.out.kept h3 (by simp)
            have D2 := C2.out.kept h3 (by simp)
            clear p0 p1 p2 p3 p4 p5 q0 q1 q2 q3 q4
            obtain ⟨p0, p1, p2, p3, p4, p5⟩ := D1.all
            obtain ⟨q0, q1, q2, q3, q4⟩ := D2.all
            replace G3 : Aside _ := G3
            replace D1 : Aside _ := D1
            replace D2 : Aside _ := D2
            clear h3 C1 C2 G2))
        | (go_at_call 169; go_must (
            refine (countI _ _).mono ?_; rintro e' w4 ⟨rfl, h4⟩
            have G4 := grown_trans G3.out h4
            have E1 := D1.out.kept h4 (by simp)
            have E2 := D2.out.kept h4 (by simp)
            clear p0 p1 p2 p3 p4 p5 q0 q1 q2 q3 q4
            obtain ⟨p0, p1, p2, p3, p4, p5⟩ := E1.all
            obtain ⟨q0, q1, q2, q3, q4⟩ := E2.all
            replace G4 : Aside _ := G4
            replace E1 : Aside _ := E1
            replace E2 : Aside _ := E2
            clear h4 D1 D2 G3))
        | go_in)
      go_ret
      refine ⟨?_, G2.out⟩
      have : fits x = 1 := if_neg (by simpa using hx)
      simp [this]
  | true =>
      go_enter Tryz.func95, Tryz.ntmps95
      go_wp2_with (first
        | (go_at_call 166; go_must (
            refine (namedI _ _).mono ?_; rintro e' w1 ⟨rfl, h1⟩
            have G1 := grown_trans g2.out h1
            have B1 := b1.out.kept h1 (by simp)
            have B2 := b2.out.kept h1 (by simp)
            obtain ⟨p0, p1, p2, p3, p4, p5⟩ := B1.all
            obtain ⟨q0, q1, q2, q3, q4⟩ := B2.all
            replace G1 : Aside _ := G1
            replace B1 : Aside _ := B1
            replace B2 : Aside _ := B2
            clear h1 b1 b2 g2))
        | (go_at_call 167; go_must (
            refine (numberI _ _).mono ?_; rintro e' w2 ⟨rfl, h2⟩; rw [hx]
            have G2 := grown_trans G1.out h2
            have C1 := B1.out.kept h2 (by simp)
            have C2 := B2.out.kept h2 (by simp)
            clear p0 p1 p2 p3 p4 p5 q0 q1 q2 q3 q4
            obtain ⟨p0, p1, p2, p3, p4, p5⟩ := C1.all
            obtain ⟨q0, q1, q2, q3, q4⟩ := C2.all
            replace G2 : Aside _ := G2
            replace C1 : Aside _ := C1
            replace C2 : Aside _ := C2
            clear h2 B1 B2 G1))
        | (go_at_call 168; go_must (
            refine (longI _ _).mono ?_; rintro e' w3 ⟨rfl, h3⟩
            have G3 := grown_trans G2.out h3
            have D1 := C1.out.kept h3 (by simp)
            have D2 := C2.out.kept h3 (by simp)
            clear p0 p1 p2 p3 p4 p5 q0 q1 q2 q3 q4
            obtain ⟨p0, p1, p2, p3, p4, p5⟩ := D1.all
            obtain ⟨q0, q1, q2, q3, q4⟩ := D2.all
            replace G3 : Aside _ := G3
            replace D1 : Aside _ := D1
            replace D2 : Aside _ := D2
            clear h3 C1 C2 G2))
        | (go_at_call 169; go_must (
            refine (countI _ _).mono ?_; rintro e' w4 ⟨rfl, h4⟩
            have G4 := grown_trans G3.out h4
            have E1 := D1.out.kept h4 (by simp)
            have E2 := D2.out.kept h4 (by simp)
            clear p0 p1 p2 p3 p4 p5 q0 q1 q2 q3 q4
            obtain ⟨p0, p1, p2, p3, p4, p5⟩ := E1.all
            obtain ⟨q0, q1, q2, q3, q4⟩ := E2.all
            replace G4 : Aside _ := G4
            replace E1 : Aside _ := E1
            replace E2 : Aside _ := E2
            clear h4 D1 D2 G3))
        | go_in)
      have hf : Aside (fits x = 0) := if_pos (by simpa using hx)
      have H0 : Aside (w.grownBy w4 none) := G4
      clear G4 E1 E2 p0 p1 p2 p3 p4 p5 q0 q1 q2 q3 q4 hx
      go_loopw [43] (fun i wl => wl = w4 ∧ i = .int .i64 0) (fun _ _ => 0)
      case atStart => exact ⟨rfl, rfl⟩
      case round =>
        obtain ⟨rfl, rfl⟩ := hrel
        go_wp2
        go_ret
        exact ⟨by simp [hf.out], H0.out⟩
theorem checkR (n : Value) (T K : Nat) (x : Int) (w : World) (ht : TyAt w T) (hk : KidAt w K x) : Calls Tryz.prog 95 #[tyS n (.slice (some ⟨T, 0, none⟩) 1 1), vaR (.slice (some ⟨K, 0, none⟩) 1 1)] w fun e w' => e = .returned (.int .i64 (fits x)) ∧ w.grownBy w' none := by
  have g2 : Aside (w.grownBy ((w.alloc (.cells #[.int .i64 12, n, .slice (some ⟨T, 0, none⟩) 1 1, .int .i64 0, .int .i64 0, .int .i64 0] 28)).alloc (.cells #[.bool false, .int .i64 0, .int .i64 0, .slice none 0 0, .slice (some ⟨K, 0, none⟩) 1 1] 32)) none) := grown_trans (World.grownBy_alloc _ _ _) (World.grownBy_alloc _ _ _)
  have b1 := (Box6.new w (t := 28) (.int .i64 12) n (.slice (some ⟨T, 0, none⟩) 1 1) (.int .i64 0) (.int .i64 0) (.int .i64 0)).kept (World.grownBy_alloc _ (.cells #[.bool false, .int .i64 0, .int .i64 0, .slice none 0 0, .slice (some ⟨K, 0, none⟩) 1 1] 32) none) (by simp)
  have b2 := Box5.new (w.alloc (.cells #[.int .i64 12, n, .slice (some ⟨T, 0, none⟩) 1 1, .int .i64 0, .int .i64 0, .int .i64 0] 28)) (.bool false) (.int .i64 0) (.int .i64 0) (.slice none 0 0) (.slice (some ⟨K, 0, none⟩) 1 1)
  rw [show (w.alloc (.cells #[.int .i64 12, n, .slice (some ⟨T, 0, none⟩) 1 1, .int .i64 0, .int .i64 0, .int .i64 0] 28)).heap.size = w.heap.size + 1 by simp] at b2
  replace b1 : Aside _ := b1
  replace b2 : Aside _ := b2
  replace ht : Aside _ := ht
  replace hk : Aside _ := hk
  go_enter Tryz.func95, Tryz.ntmps95
  go_wp2_with (first
    | (go_at_call 166; go_must (
        refine (namedR n (.slice (some ⟨T, 0, none⟩) 1 1) _ _).mono ?_; rintro e' w1 ⟨rfl, h1⟩
        have G1 := grown_trans g2.out h1
        have B1 := b1.out.kept h1 (by simp)
        have C1 := b2.out.kept h1 (by simp)
        obtain ⟨p0, p1, p2, p3, p4, p5⟩ := B1.all
        obtain ⟨q0, q1, q2, q3, q4⟩ := C1.all
        replace G1 : Aside _ := G1
        replace B1 : Aside _ := B1
        replace C1 : Aside _ := C1
        clear h1 g2 b1 b2))
    | (go_at_call 167; go_must (
        refine (numberR n (.slice (some ⟨T, 0, none⟩) 1 1) _ _).mono ?_; rintro e' w2 ⟨rfl, h2⟩
        have G2 := grown_trans G1.out h2
        have B2 := B1.out.kept h2 (by simp)
        have C2 := C1.out.kept h2 (by simp)
        clear p0 p1 p2 p3 p4 p5 q0 q1 q2 q3 q4
        obtain ⟨p0, p1, p2, p3, p4, p5⟩ := B2.all
        obtain ⟨q0, q1, q2, q3, q4⟩ := C2.all
        replace G2 : Aside _ := G2
        replace B2 : Aside _ := B2
        replace C2 : Aside _ := C2
        clear h2 G1 B1 C1))
    | (go_at_call 168; go_must (
        refine (longR n (.slice (some ⟨T, 0, none⟩) 1 1) _ _).mono ?_; rintro e' w3 ⟨rfl, h3⟩
        have G3 := grown_trans G2.out h3
        have B3 := B2.out.kept h3 (by simp)
        have C3 := C2.out.kept h3 (by simp)
        clear p0 p1 p2 p3 p4 p5 q0 q1 q2 q3 q4
        obtain ⟨p0, p1, p2, p3, p4, p5⟩ := B3.all
        obtain ⟨q0, q1, q2, q3, q4⟩ := C3.all
        replace G3 : Aside _ := G3
        replace B3 : Aside _ := B3
        replace C3 : Aside _ := C3
        clear h3 G2 B2 C2))
    | (go_at_call 169; go_must (
        refine (countR n _ _ _).mono ?_; rintro e' w4 ⟨rfl, h4⟩
        have G4 := grown_trans G3.out h4
        have B4 := B3.out.kept h4 (by simp)
        have C4 := C3.out.kept h4 (by simp)
        clear p0 p1 p2 p3 p4 p5 q0 q1 q2 q3 q4
        obtain ⟨p0, p1, p2, p3, p4, p5⟩ := B4.all
        obtain ⟨q0, q1, q2, q3, q4⟩ := C4.all
        replace G4 : Aside _ := G4
        replace B4 : Aside _ := B4
        replace C4 : Aside _ := C4
        clear h4 G3 B3 C3))
    | go_in)
  go_loopw [43] (fun i wl => wl = w4 ∧ i = .int .i64 0 ∨ fits x = 0 ∧ i = .int .i64 1 ∧ Aside (w.grownBy wl none)) (fun i _ => 1 - (intOf i).toNat)
  case atStart => exact .inl ⟨rfl, rfl⟩
  case round =>
    rcases hrel with ⟨rfl, rfl⟩ | ⟨hf, rfl, H⟩
    · have k4 := hk.out.grown G4.out
      have T4 := ht.out.grown G4.out
      obtain ⟨r0, r1, r2, r3, r4⟩ := k4
      have BA := B4.out.kept (World.grownBy_alloc wr (.cells #[.bool false, .int .i64 x, .int .i64 0, .slice none 0 0, .slice none 0 0] 32) none) (by simp)
      have CA := C4.out.kept (World.grownBy_alloc wr (.cells #[.bool false, .int .i64 x, .int .i64 0, .slice none 0 0, .slice none 0 0] 32) none) (by simp)
      have GA := grown_alloc G4.out (.cells #[.bool false, .int .i64 x, .int .i64 0, .slice none 0 0, .slice none 0 0] 32)
      have V := Box5.new wr (.bool false) (.int .i64 x) (.int .i64 0) (.slice none 0 0) (.slice none 0 0)
      have kr := kidR n T (.slice (some ⟨K, 0, none⟩) 1 1) _ (T4.grown (World.grownBy_alloc wr (.cells #[.bool false, .int .i64 x, .int .i64 0, .slice none 0 0, .slice none 0 0] 32) none))
      clear p0 p1 p2 p3 p4 p5 q0 q1 q2 q3 q4
      obtain ⟨p0, p1, p2, p3, p4, p5⟩ := BA.all
      obtain ⟨q0, q1, q2, q3, q4⟩ := CA.all
      replace BA : Aside _ := BA
      replace CA : Aside _ := CA
      replace GA : Aside _ := GA
      replace V : Aside _ := V
      replace kr : Aside _ := kr
      clear G4 B4 C4 hk ht T4
      have hfx : fits x = 0 ∨ fits x = 1 := by unfold fits; split <;> simp
      go_wp2_with (first
        | (go_at_call 93; go_must (
            refine Calls.mono kr.out ?_; rintro e' w5 ⟨rfl, h5⟩
            have gB := grown_alloc h5 (.cells #[.int .i64 1, .slice none 0 0, .slice none 0 0, .int .i64 0, .int .i64 0, .int .i64 0] 28)
            have GB := grown_trans GA.out gB
            have BB := BA.out.kept gB (by simp)
            have VB := V.out.kept gB (by simp)
            clear p0 p1 p2 p3 p4 p5 q0 q1 q2 q3 q4 r0 r1 r2 r3 r4
            obtain ⟨p0, p1, p2, p3, p4, p5⟩ := BB.all
            obtain ⟨q0, q1, q2, q3, q4⟩ := VB.all
            replace GB : Aside _ := GB
            clear h5 gB GA BB VB BA V CA kr))
        | (go_at_call 95; go_must (
            refine (checkI x _).mono ?_; rintro e' w6 ⟨rfl, h6⟩
            have G6 : Aside (w.grownBy w6 none) := grown_trans GB.out h6
            clear p0 p1 p2 p3 p4 p5 q0 q1 q2 q3 q4 h6 GB
            rcases hfx with hf | hf <;> rw [hf]))
        | go_in)
      · exact ⟨.inr ⟨hf, rfl, G6⟩, by decide⟩
      · replace hf : Aside _ := hf
        go_ret
        exact ⟨by simp [hf.out], G6.out⟩
    · have hf : Aside (fits x = 0) := hf
      go_wp2
      go_ret
      exact ⟨by simp [hf.out], H.out⟩
end Go.Proofs.YtinnmaeeeohkeaaGreatDoor
