/- The law ValueCopies, walked. -/
import Derived.Test.YtnabebdceaoiiaaGreatDoorCpE
import Derived.Test.YtnabebdceaoiiaaGreatDoorPrF
import Derived.Test.YtnabebdceaoiiaaGreatDoorRdt
import Derived.Deep.RegionHeld3
namespace Go.Proofs.YtnabebdceaoiiaaGreatDoor
open Go Go.Ev Go.RowKit
set_option linter.unusedVariables false
set_option linter.unusedSimpArgs false

/-- a call that the evaluator answers -/
theorem pw {f : FuncId} {F : Func} (hf : Tryz.prog.funcs[f]? = some F) (hname : (F.name == "runtime.NumGoroutine") = false) (hb : F.body.isSome = true)
    (ds : List D) {y : D} (h : evL cfg f 0 (ds.map .d) [] = some (.d y, [])) {args : Array Value} {w : World} (hsz : args.size = ds.length) (hrd : ∀ (i : Nat) v d, args[i]? = some v → ds[i]? = some d → Rd anyB w v d)
    (hgo : ∀ n ob, cfg.gobj n = some ob → HoldsG w n ob) : Calls Tryz.prog f args w fun e w' => ∃ v, e = .returned v ∧ Rd anyB w' v y ∧ w.grownBy w' none := by
  obtain ⟨c, hc⟩ := Option.isSome_iff_exists.1 hb
  exact (kg follows apb pk ext_ok hf hname hc h hsz hrd (fun n e h => by cases h) hgo).mono fun e w' ⟨v, h1, h2, B⟩ => ⟨v, h1, h2, ⟨B.os, B.tape, B.output, B.size, fun k hk _ => B.block k hk⟩⟩
def Holds (w : World) : Prop := ∀ n ob, cfg.gobj n = some ob → HoldsG w n ob
theorem a7 {f : FuncId} {F : Func} (hf : Tryz.prog.funcs[f]? = some F) (hname : (F.name == "runtime.NumGoroutine") = false) (hb : F.body.isSome = true)
    (ds : List D) {b : Bool} (h : evL cfg f 0 (ds.map .d) [] = some (.d (.bool b), [])) {args : Array Value} {w : World} (hsz : args.size = ds.length) (hrd : ∀ (i : Nat) v d, args[i]? = some v → ds[i]? = some d → Rd anyB w v d)
    (hgo : Holds w) : Calls Tryz.prog f args w fun e w' => e = .returned (.bool b) ∧ w.grownBy w' none :=
  (pw hf hname hb ds h hsz hrd hgo).mono fun e w' ⟨v, h1, h2, h3⟩ => ⟨by rw [h1, h2.bool_inv], h3⟩
theorem ah6 {f : FuncId} {F : Func} (hf : Tryz.prog.funcs[f]? = some F) (hname : (F.name == "runtime.NumGoroutine") = false) (hb : F.body.isSome = true)
    (ds : List D) {n : Int} (h : evL cfg f 0 (ds.map .d) [] = some (.d (.int .i64 n), [])) {args : Array Value} {w : World} (hsz : args.size = ds.length) (hrd : ∀ (i : Nat) v d, args[i]? = some v → ds[i]? = some d → Rd anyB w v d)
    (hgo : Holds w) : Calls Tryz.prog f args w fun e w' => e = .returned (.int .i64 n) ∧ w.grownBy w' none :=
  (pw hf hname hb ds h hsz hrd hgo).mono fun e w' ⟨v, h1, h2, h3⟩ => ⟨by rw [h1, h2.int_inv], h3⟩
theorem Holds.grown {w w' : World} (h : Holds w) (g : w.grownBy w' none) : Holds w' := eq h g
theorem iw {w : World} {v : Value} {d : D} (h : Rd anyB w v d) : ∀ (i : Nat) v' d', #[v][i]? = some v' → [d][i]? = some d' → Rd anyB w v' d' := fun i v' d' h1 h2 => by
  match i, h1, h2 with
  | 0, h1, h2 => cases h1; cases h2; exact h
  | i + 1, h1, h2 => simp at h1
theorem abg {w : World} {v u : Value} {d e : D} (h : Rd anyB w v d) (k : Rd anyB w u e) : ∀ (i : Nat) v' d', #[v, u][i]? = some v' → [d, e][i]? = some d' → Rd anyB w v' d' := fun i v' d' h1 h2 => by
  match i, h1, h2 with
  | 0, h1, h2 => cases h1; cases h2; exact h
  | 1, h1, h2 => cases h1; cases h2; exact k
  | i + 2, h1, h2 => simp at h1
/-- a box of a type -/
structure BoxT6 (w : World) (g : Nat) (cs : List Value) : Prop where
  row : w.ownsRow 0 25 6 (.slice (some ⟨g, 0, none⟩) 1 1) 1 cs
theorem BoxT6.cell {w : World} {g : Nat} {cs : List Value} (h : BoxT6 w g cs) (j : Nat) {u : Value} (hu : cs[j]? = some u) : w.cell? ⟨g, j, none⟩ = some u := by
  have hl : cs.length = 6 := h.row.1
  have hj : j < cs.length := (List.getElem?_eq_some_iff.1 hu).1
  rw [World.ownsRow.cellAt h.row j (by omega)]; exact hu
theorem BoxT6.kept {w w' : World} {g : Nat} {cs : List Value} {row : Option Nat} (h : BoxT6 w g cs) (k : w.grownBy w' row) (hr : row ≠ some g) : BoxT6 w' g cs := ⟨World.ownsRow.kept h.row k (.inr fun e => hr e.symm)⟩
theorem BoxT6.new (w : World) (c0 c1 c2 c3 c4 c5 : Value) : BoxT6 (w.alloc (.cells #[c0, c1, c2, c3, c4, c5] 25)) w.heap.size [c0, c1, c2, c3, c4, c5] := ⟨World.ownsRow_lit w #[c0, c1, c2, c3, c4, c5] 1 (Nat.zero_le _) (by decide) rfl⟩
/-- what stands while the law runs -/
structure Sta (w : World) (gt gv : Nat) (t0 t1 t2 t3 t4 t5 v0 v1 v2 v3 v4 : Value) (t : Ty) (v : Va) : Prop where
  bt : BoxT6 w gt [t0, t1, t2, t3, t4, t5]
  bv : BoxV w gv [v0, v1, v2, v3, v4]
  rt : Rd anyB w (.agg #[t0, t1, t2, t3, t4, t5]) t.d
  rv : Rd anyB w (.agg #[v0, v1, v2, v3, v4]) v.d
  ho : Holds w
theorem Sta.grown {w w' : World} {gt gv : Nat} {t0 t1 t2 t3 t4 t5 v0 v1 v2 v3 v4 : Value} {t : Ty} {v : Va} (h : Sta w gt gv t0 t1 t2 t3 t4 t5 v0 v1 v2 v3 v4 t v) (g : w.grownBy w' none) : Sta w' gt gv t0 t1 t2 t3 t4 t5 v0 v1 v2 v3 v4 t v :=
  ⟨h.bt.kept g (by simp), h.bv.kept g (by simp), bh h.rt g, bh h.rv g, h.ho.grown g⟩
theorem Sta.cells {w : World} {gt gv : Nat} {t0 t1 t2 t3 t4 t5 v0 v1 v2 v3 v4 : Value} {t : Ty} {v : Va} (h : Sta w gt gv t0 t1 t2 t3 t4 t5 v0 v1 v2 v3 v4 t v) :
    w.cell? ⟨gt, 0, none⟩ = some t0 ∧ w.cell? ⟨gt, 1, none⟩ = some t1 ∧ w.cell? ⟨gt, 2, none⟩ = some t2 ∧ w.cell? ⟨gt, 3, none⟩ = some t3 ∧ w.cell? ⟨gt, 4, none⟩ = some t4 ∧ w.cell? ⟨gt, 5, none⟩ = some t5 ∧
    w.cell? ⟨gv, 0, none⟩ = some v0 ∧ w.cell? ⟨gv, 1, none⟩ = some v1 ∧ w.cell? ⟨gv, 2, none⟩ = some v2 ∧ w.cell? ⟨gv, 3, none⟩ = some v3 ∧ w.cell? ⟨gv, 4, none⟩ = some v4 :=
  ⟨h.bt.cell 0 rfl, h.bt.cell 1 rfl, h.bt.cell 2 rfl, h.bt.cell 3 rfl, h.bt.cell 4 rfl, h.bt.cell 5 rfl, h.bv.cell 0 rfl, h.bv.cell 1 rfl, h.bv.cell 2 rfl, h.bv.cell 3 rfl, h.bv.cell 4 rfl⟩
end Go.Proofs.YtnabebdceaoiiaaGreatDoor
