/- A copy of bytes is apart. -/
import Derived.Test.YtnabebdceaoiiaaGreatDoorCpB
import Derived.Test.YtnabebdceaoiiaaGreatDoorClC
namespace Go.Proofs.YtnabebdceaoiiaaGreatDoor
open Go Go.Ev Go.RowKit
set_option linter.unusedVariables false
set_option linter.unusedSimpArgs false

/-- a fresh array, as the evaluator answers it -/
theorem apc {f : FuncId} {F : Func} {c : Code} (hf : Tryz.prog.funcs[f]? = some F) (hname : (F.name == "runtime.NumGoroutine") = false) (hb : F.body = some c)
    {ds : List D} {z : Nat} {es : List D} (h : evL cfg f 0 (ds.map .d) [] = some (.own false z es, [])) {args : Array Value} {w : World} (hsz : args.size = ds.length) (hrd : ∀ (i : Nat) v d, args[i]? = some v → ds[i]? = some d → Rd anyB w v d)
    (hgo : ∀ n ob, cfg.gobj n = some ob → HoldsG w n ob) : Calls Tryz.prog f args w fun e w' => ∃ b o cap, e = .returned (.slice (some (ad3 b o)) es.length cap) ∧ w.heap.size ≤ b ∧ es.length ≤ cap ∧ Arr anyB w' b o cap z es ∧ w.grownBy w' none := by
  have hd := evL_ok follows apb pk ext_ok f 0 _ [] _ _ h Cx.none w args (mc hsz hrd (fun n e h => by cases h) hgo)
  rcases hd with ⟨v, w', h1, _⟩ | ⟨_, h2⟩
  · rw [di hf hname hb] at h1
    cases h1
  · refine h2.mono fun e w' he => ?_
    cases e with
    | returned v =>
      obtain ⟨x', L⟩ := he
      obtain ⟨b, o, cap, rfl, how, hcap, hA⟩ := L.res
      refine ⟨b, o, cap, rfl, ?_, hcap, ⟨hA.pos, hA.room, hA.wid, hA.cel, fun i e he j c hj => ?_⟩, ⟨L.fr.io.1, L.fr.io.2.1, L.fr.io.2.2, L.fr.size, fun k hk _ => (L.fr.same k hk (.inl rfl)).1⟩⟩
      · apply Classical.byContradiction
        intro hlt
        have := (L.fr.same b (by omega) (.inl rfl)).2
        rw [how] at this
        cases this
      · obtain ⟨v, h3, h4⟩ := hA.els i e he j c hj
        exact ⟨v, h3, h4.mono fun _ _ _ _ h => ⟨trivial, h⟩⟩
    | panicked c => exact he.elim
    | outgrown => exact he.elim
theorem xy {W : World} {bv : Value} {b : Tx} (hb : b.length ≤ 1000000) (h : Rd anyB W bv (txt b)) (hgo : ∀ n ob, cfg.gobj n = some ob → HoldsG W n ob) :
    Calls Tryz.prog 54 #[bv] W fun e W' => ∃ ad cap, e = .returned (.slice ad b.length cap) ∧ b.length ≤ cap ∧ (∀ c, BySh W' (fun q => W.heap.size ≤ q) (.slice ad b.length c) b.length) ∧ W.grownBy W' none := by
  obtain ⟨c, hc⟩ : ∃ c, Tryz.f54.body = some c := Option.isSome_iff_exists.1 (by kernel_rfl)
  have hr := fz b hb
  cases b with
  | nil =>
    simp only [List.isEmpty_nil, if_true] at hr
    refine (kg follows apb pk ext_ok Tryz.func54 (by kernel_rfl) hc (ds := [txt []]) hr (args := #[bv]) rfl (fun i v d h1 h2 => ?_) (fun n e h => by cases h) hgo).mono ?_
    · match i, h1, h2 with
      | 0, h1, h2 => cases h1; cases h2; exact h
      | i + 1, h1, h2 => simp at h1
    · rintro e W' ⟨v, rfl, hv, B⟩
      obtain ⟨ad, rfl⟩ := hv.nilS_inv
      exact ⟨ad, 0, rfl, Nat.le_refl _, fun c => ⟨ad, c, rfl, fun j hj => by simp at hj⟩, ⟨B.os, B.tape, B.output, B.size, fun k hk _ => B.block k hk⟩⟩
  | cons y r =>
    simp only [List.isEmpty_cons, Bool.false_eq_true, if_false] at hr
    refine (apc Tryz.func54 (by kernel_rfl) hc (ds := [txt (y :: r)]) hr (args := #[bv]) rfl (fun i v d h1 h2 => ?_) hgo).mono ?_
    · match i, h1, h2 with
      | 0, h1, h2 => cases h1; cases h2; exact h
      | i + 1, h1, h2 => simp at h1
    · rintro e W' ⟨b, o, cap, rfl, hlt, hcap, A, gr⟩
      rw [List.length_map] at hcap ⊢
      refine ⟨some (ad3 b o), cap, rfl, hcap, fun c => ⟨_, c, rfl, fun j hj => ?_⟩, gr⟩
      obtain ⟨x, hx⟩ : ∃ x, (y :: r)[j]? = some x := ⟨_, List.getElem?_eq_getElem hj⟩
      obtain ⟨v, h3, h4⟩ := A.els j (byteD x) (by rw [List.getElem?_map, hx]; rfl) 0 (byteD x) rfl
      have hfz := (A.room j (by omega)).2
      cases h4
      rw [Nat.mul_one, Nat.add_zero] at h3
      exact ⟨b, o, _, rfl, hlt, h3, hfz⟩
end Go.Proofs.YtnabebdceaoiiaaGreatDoor
