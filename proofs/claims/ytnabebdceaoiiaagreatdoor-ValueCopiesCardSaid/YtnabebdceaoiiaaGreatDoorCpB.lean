/- A value that is written over: walked. -/
import Derived.Test.YtnabebdceaoiiaaGreatDoorCpA
import Derived.RangeFuncBox
import Derived.Shelf.Abstract
import Derived.WalkKit
import Derived.StillTailTactics
import Derived.RegionTactic
import Derived.Deep.LoopGhost
import Derived.Deep.Draws
import Derived.Deep.QuietTactic
import Derived.Deep.DeepMust
namespace Go.Proofs.YtnabebdceaoiiaaGreatDoor
open Go Go.Ev Go.RowKit
set_option linter.unusedVariables false
set_option linter.unusedSimpArgs false

set_option maxRecDepth 100000 in
set_option maxHeartbeats 400000 in
theorem kw : ∀ (m : Nat) (v : Va), v.size ≤ m → (∀ n, na n v) → ∀ (lo : Nat) (A : Nat → Prop) (hA : ∀ b, A b → lo ≤ b) (W : World) (g o : Nat) (c0 c1 c2 c3 c4 : Value), W.cell? (ad3 g o) = some c0 → W.cell? (ad3 g (o + 1)) = some c1 → W.cell? (ad3 g (o + 2)) = some c2 → W.cell? (ad3 g (o + 3)) = some c3 → W.cell? (ad3 g (o + 4)) = some c4 → VaSh W A m [c0, c1, c2, c3, c4] v →
    Calls Tryz.prog 24 #[.pointer (some (ad3 g o))] W fun e W' => e = .returned (.tuple #[]) ∧ Spo lo W W'
  | 0, v, h => by have := v.size_pos; omega
  | m + 1, v, h => by
    intro hsm lo A hA W g o c0 c1 c2 c3 c4 m0 m1 m2 m3 m4 hs
    have hsz := (hsm 1)
    obtain ⟨hbl, hkl, _⟩ := hsz
    have hs' : Aside (VaSh W A (m + 1) [c0, c1, c2, c3, c4] v) := hs
    obtain ⟨d0, x, d2, bv, ka, kc, he, hb, hk⟩ := hs
    simp only [List.cons.injEq, and_true] at he
    obtain ⟨rfl, rfl, rfl, rfl, rfl⟩ := he
    obtain ⟨ba, bc, rfl, hby⟩ := hb
    replace hby : Aside _ := hby
    replace hk : Aside _ := hk
    go_enter Tryz.func24, Tryz.ntmps24
    go_wp2
    go_loopw [2] (fun i wl => ∃ k : Nat, k ≤ v.b.length ∧ i = .int .i64 k ∧ Aside (Spo lo W wl)) (fun i _ => v.b.length - (intOf i).toNat)
    case atStart => exact ⟨0, Nat.zero_le _, rfl, Spo.refl _ _⟩
    case round =>
      obtain ⟨k, hkk, rfl, L⟩ := hrel
      obtain ⟨u3, n3, l3⟩ := L.cell g _ _ m3
      obtain rfl := l3.slice
      by_cases hlt : k < v.b.length
      · obtain ⟨b, p, y, rfl, hb1, hb2, hb3⟩ := hby k hlt
        obtain ⟨uy, ny, ly⟩ := L.cell b _ _ hb2
        obtain ⟨z, rfl⟩ := ly.u8
        have hfz := (L.froz b (p + k) (by rw [hb2]; rfl)).trans hb3
        go_wp2
        go_still_tail 14, (by kernel_rfl)
        change wpList _ _ _ _ _ wr.drew
        have nyd : wr.drew.cell? (ad3 b (p + k)) = some (.int .u8 z) := ny
        have hfd : wr.drew.frozen? (ad3 b (p + k)) = false := hfz
        have Ld : Spo lo W wr.drew := L.trans (Spo.drew _ _)
        have hset : ∀ z', Spo lo W (wr.drew.setCell (ad3 b (p + k)) (.int .u8 z')) := fun z' => Ld.trans (Spo.set nyd (.inr (.inl ⟨z, z', rfl, rfl⟩)) (hA b hb1))
        replace hset : Aside _ := hset
        clear Ld L n3 l3 ny hfz
        generalize wr.drew = w2 at *
        go_wp2
        go_roundw
        case rel => exact ⟨k + 1, by omega, by go_num, hset _⟩
        case measure => simp [intOf]; omega
      · have e : k = v.b.length := by omega
        subst e
        go_wp2
        go_loopw [3] (fun i wl => ∃ k : Nat, k ≤ v.kids.length ∧ i = .int .i64 k ∧ Aside (Spo lo W wl)) (fun i _ => v.kids.length - (intOf i).toNat)
        case atStart => exact ⟨0, Nat.zero_le _, rfl, L⟩
        case round =>
          clear L n3 l3
          obtain ⟨k, hkk, rfl, L⟩ := hrel
          obtain ⟨u4, n4, l4⟩ := L.cell g _ _ m4
          obtain rfl := l4.slice
          by_cases hlt : k < v.kids.length
          · obtain ⟨y, hy⟩ : ∃ y, v.kids[k]? = some y := ⟨_, List.getElem?_eq_getElem hlt⟩
            obtain ⟨b, p, e0, e1, e2, e3, e4, rfl, hb1, q0, q1, q2, q3, q4, hfz, hsy⟩ := hk k y hy
            obtain ⟨f0, r0, t0⟩ := L.cell b _ _ q0
            obtain ⟨f1, r1, t1⟩ := L.cell b _ _ q1
            obtain ⟨f2, r2, t2⟩ := L.cell b _ _ q2
            obtain ⟨f3, r3, t3⟩ := L.cell b _ _ q3
            obtain ⟨f4, r4, t4⟩ := L.cell b _ _ q4
            have hsy2 : VaSh wr A m [f0, f1, f2, f3, f4] y := VaSh.spo L m hsy rfl fun i u u' hu hu' => by
              match i, hu, hu' with
              | 0, hu, hu' => cases hu; cases hu'; exact t0
              | 1, hu, hu' => cases hu; cases hu'; exact t1
              | 2, hu, hu' => cases hu; cases hu'; exact t2
              | 3, hu, hu' => cases hu; cases hu'; exact t3
              | 4, hu, hu' => cases hu; cases hu'; exact t4
              | i + 5, hu, _ => simp at hu
            have hym := List.mem_of_getElem? hy
            have hysz := Va.size_kid hym
            have hI : ∃ z, f1 = .int .i64 z := by
              cases m with
              | zero => have := y.size_pos; omega
              | succ m => obtain ⟨_, z, _, _, _, _, he, _⟩ := hsy2; simp only [List.cons.injEq] at he; exact ⟨z, he.2.1⟩
            obtain ⟨z, rfl⟩ := hI
            have hfz2 := (L.froz b (p + k * 5 + 1) (by rw [q1]; rfl)).trans hfz
            have ih := kw m y (by omega) (fun n => (hsm (n + 1)).2.2 y hym) lo A hA wr b (p + k * 5) f0 _ f2 f3 f4 r0 r1 r2 r3 r4 hsy2
            replace ih : Aside _ := ih
            replace hsy : Aside _ := hsy
            replace hsy2 : Aside _ := hsy2
            replace hy : Aside _ := hy
            clear q0 q1 q2 q3 q4 r0 r2 r3 r4 t0 t1 t2 t3 t4
            go_wp2_with (first
              | (go_at_call 24; go_must (
                 refine Calls.mono (Aside.out ih) ?_; rintro e5 w2 ⟨rfl, S2⟩
                 obtain ⟨u5, n5, l5⟩ := S2.cell g _ _ n4
                 obtain rfl := l5.slice
                 obtain ⟨u6, n6, l6⟩ := S2.cell b _ _ r1
                 obtain ⟨z2, rfl⟩ := l6.i64
                 have hfd : w2.drew.frozen? (ad3 b (p + k * 5 + 1)) = false := (S2.froz b _ (by rw [r1]; rfl)).trans hfz2
                 have nyd : w2.drew.cell? (ad3 b (p + k * 5 + 1)) = some (.int .i64 z2) := n6
                 have Ld : Spo lo W w2.drew := (L.out.trans S2).trans (Spo.drew _ _)
                 have hset : ∀ z', Spo lo W (w2.drew.setCell (ad3 b (p + k * 5 + 1)) (.int .i64 z')) := fun z' => Ld.trans (Spo.set nyd (.inr (.inr ⟨z2, z', rfl, rfl⟩)) (hA b hb1))
                 replace hset : Aside _ := hset
                 clear S2 l5 l6 Ld ih r1 hfz2))
              | go_in)
            go_still_tail 16, (by kernel_rfl)
            change wpList _ _ _ _ _ w2.drew
            clear n5 n6 n4 l4 L
            generalize w2.drew = w3 at *
            go_wp2
            go_roundw
            case rel => exact ⟨k + 1, by omega, by go_num, hset _⟩
            case measure => simp [intOf]; omega
          · have e : k = v.kids.length := by omega
            subst e
            have L' : Aside (Spo lo W wr) := L
            clear L
            go_wp2
            go_end0
            exact ⟨rfl, L'⟩
end Go.Proofs.YtnabebdceaoiiaaGreatDoor
