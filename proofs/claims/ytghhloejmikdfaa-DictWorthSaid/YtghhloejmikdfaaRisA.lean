/- The library's and the program's small functions behind dict's rising: equality, order, the three methods of words. Own work. -/
import Derived.Test.YtghhloejmikdfaaCode
import Derived.Test.YtghhloejmikdfaaShelf
import Derived.Test.YtghhloejmikdfaaL11
import Derived.Test.YtghhloejmikdfaaL2
import Derived.Shelf.RegionOpenPlain
import Derived.WalkKit
import Derived.RegionTactic
import Derived.Deep.LoopGhost
import Derived.Deep.Draws
import Derived.Deep.QuietTactic
import Derived.Lib.Walk
import Derived.Lib.SliceRun
import Derived.Sort.WalkB12
namespace Go.Proofs.Ytghhloejmikdfaa
open Go Go.Ev Go.RowKit Go.Lib Go.Sort
set_option linter.unusedVariables false
set_option linter.unusedSimpArgs false

theorem rd_drewN {F : Nat → Prop} {w : World} {v : Value} {d : D} (h : Rd F w v d) (n : Nat) : Rd F (w.drewN n) v d := h.mono fun b o u hF hc => ⟨hF, hc⟩
theorem ba_toList (a : Tx) : (ByteArray.mk a.toArray).toList = a := by rw [toList_data]

set_option maxHeartbeats 1000000 in
theorem eq_calls {F : Nat → Prop} {v u : Value} {a b : Tx} {w : World} (hv : Rd F w v (txt a)) (hu : Rd F w u (txt b)) : Calls Try.prog 32 #[v, u] w fun e w' => e = .returned (.bool (a == b)) ∧ w' = w := by
  have h1 := run_txt_str (P := Try.prog) hv Try.underlying37 Try.underlying5 Try.underlying9
  have h2 := run_txt_str (P := Try.prog) hu Try.underlying37 Try.underlying5 Try.underlying9
  clear hv hu
  go_enter Try.func32, Try.ntmps32
  go_wp2
  go_ret
  exact ⟨rfl, rfl⟩
set_option maxHeartbeats 1000000 in
theorem cmp_calls {F : Nat → Prop} {v u : Value} {a b : Tx} {w : World} (hv : Rd F w v (txt a)) (hu : Rd F w u (txt b)) : Calls Try.prog 25 #[v, u] w fun e w' => e = .returned (.int .i64 (cmpB a b)) ∧ w' = w := by
  have h1 := run_txt_cmp (P := Try.prog) hv hu
  clear hv hu
  go_enter Try.func25, Try.ntmps25
  go_wp2
  rw [run_callFunc_extern Try.func33 (by kernel_rfl) (by kernel_rfl) (by kernel_rfl) (e := Extern.BytealgCompare.compare) (by kernel_rfl), h1]
  simp only [Result.andThen]
  rw [Oper.upon_value]
  go_wp2
  go_ret
  exact ⟨rfl, rfl⟩

theorem len_calls (p : Option Addr) (n c : Nat) (W : World) : LenM Try.prog 70 (.slice p n c) n W := by
  unfold LenM
  go_enter Try.func70, Try.ntmps70
  go_wp2
  go_ret
  exact ⟨rfl, 0, rfl⟩
set_option maxHeartbeats 2000000 in
theorem less_calls {F : Nat → Prop} (blk off c size : Nat) (W : World) (x y : Value) (a b : Tx) (i j : Nat) (hi : i < size) (hj : j < size) (hsz : size < 4611686018427387904)
    (ci : W.cell? ⟨blk, off + i, none⟩ = some x) (cj : W.cell? ⟨blk, off + j, none⟩ = some y) (hx : Rd F W x (txt a)) (hy : Rd F W y (txt b)) :
    Calls Try.prog 71 #[.slice (some ⟨blk, off, none⟩) size c, .int .i64 i, .int .i64 j] W fun e w' => e = .returned (.bool (Op.bytesLess a b)) ∧ ∃ q, w' = W.drewN q := by
  have hc : ∀ n, Calls Try.prog 25 #[x, y] (W.drewN n) fun e w' => e = .returned (.int .i64 (cmpB a b)) ∧ w' = W.drewN n := fun n => cmp_calls (rd_drewN hx n) (rd_drewN hy n)
  have hl : Op.bytesLess a b = decide (cmpB a b < 0) := by
    unfold cmpB
    cases Op.bytesLess a b
    · cases Op.bytesLess b a <;> rfl
    · rfl
  rw [hl]
  clear hx hy hl
  generalize cmpB a b = z at hc ⊢
  go_enter Try.func71, Try.ntmps71
  go_wp2
  go_quiet (first | (go_at_call 25; exact Calls.quiet_of_same (hc _)))
  go_wp2
  go_ret
  exact ⟨rfl, nq, rfl⟩
set_option maxHeartbeats 2000000 in
theorem swap_calls (blk off c size : Nat) (W : World) (p q : Option Addr) (m m' d d' : Nat) (i j : Nat) (hi : i < size) (hj : j < size) (_hsz : size < 4611686018427387904)
    (ci : W.cell? ⟨blk, off + i, none⟩ = some (.slice p m d)) (cj : W.cell? ⟨blk, off + j, none⟩ = some (.slice q m' d')) (fi : W.frozen? ⟨blk, off + i, none⟩ = false) (fj : W.frozen? ⟨blk, off + j, none⟩ = false) :
    Calls Try.prog 72 #[.slice (some ⟨blk, off, none⟩) size c, .int .i64 i, .int .i64 j] W fun e w' => e = .returned (.tuple #[]) ∧ ∃ n, w' = ((W.setCell ⟨blk, off + i, none⟩ (.slice q m' d')).setCell ⟨blk, off + j, none⟩ (.slice p m d)).drewN n := by
  obtain ⟨v', hy'⟩ := cell?_setCell_some (w := W) (p := ⟨blk, off + i, none⟩) (x := .slice q m' d') (q := ⟨blk, off + j, none⟩) cj
  go_enter Try.func72, Try.ntmps72
  go_wp2
  go_region
  all_goals (try go_wp2)
  all_goals go_end0
  all_goals exact ⟨rfl, 1, rfl⟩
end Go.Proofs.Ytghhloejmikdfaa
