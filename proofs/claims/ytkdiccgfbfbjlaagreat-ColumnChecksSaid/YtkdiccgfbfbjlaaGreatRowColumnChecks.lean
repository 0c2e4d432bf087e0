/- The row of the law ColumnChecks, and its card: for every input the law returns true, and each argument reads behind the call as it read before. No condition. -/
import Derived.Test.YtkdiccgfbfbjlaaGreatRow1
import Derived.Test.YtkdiccgfbfbjlaaGreatK
import Derived.Test.YtkdiccgfbfbjlaaGreatChk
import Derived.Test.YtkdiccgfbfbjlaaGreatMeR0
namespace Go.Proofs.YtkdiccgfbfbjlaaGreat.columnChecks
open Go Go.Me Go.ChangeShapes Go.WideShapes Go.ChangeAt Go.RowKit
open Go.ChangeMaps (open_string shut_string)
set_option linter.unusedVariables false

theorem checks_calls (ns : List Int) (len : ns.length = 6) (w : World) : Calls Tryz.prog 5 #[.agg (ns.map (Value.int .i64)).toArray] w fun e w' => e = .returned (.bool true) ∧ Below w.heap.size w w' := by
  match ns, len with
  | [a, b, c, d, e, f], _ => exact checks_walk a b c d e f w known_calls

set_option maxRecDepth 100000 in
theorem lifted (os : Os) (started : os.Started) (H : Type) (enc : TypeId × Value → H) :
    ReturnsInHanded {} Tryz.checked os 5 .any (Rows.columnChecksSpec.pre6 enc Tryz.prog Tryz.f5 [] false)
      (Rows.columnChecksSpec.post enc Tryz.prog Tryz.f5 false true false false) := by
  refine returnsInHanded_of_change (C := Tryz.checked) own started (by kernel_rfl) Tryz.func5 ?_ ?_
  · obtain ⟨w, tape, i, h1, h2, h3, h4, ⟨⟨h5, _⟩, h6⟩, h7⟩ := ChangeSpec.witness_shaped (enc := enc) (C := Tryz.checked) (os := os) (s := Rows.columnChecksSpec) (conds := []) (apart := false) (X := fun _ _ => True) false (laidWorld os) #[.agg #[.int .i64 0, .int .i64 0, .int .i64 0, .int .i64 0, .int .i64 0, .int .i64 0]] 8 rfl (World.shaped_of_RefB (by kernel_rfl) (by kernel_rfl)) (by kernel_rfl) (by kernel_rfl) (by kernel_rfl) trivial
    exact ⟨w, tape, i, h1, h2, h3, h4, ⟨h5, h6⟩, h7⟩
  intro W base args ds gs before hval0 hW _ _
  have hval : ∀ (j : Nat) t v, Tryz.f5.params[j]? = some t → args[j]? = some v → Value.okWide Tryz.prog W .any base t v := hval0
  have hW' := hW
  obtain ⟨p, q, hA0, hV, rfl, hfz, hnd⟩ := hW
  have hA : DataW.TrodAll enc Tryz.prog W 0 (fun _ => true) true Tryz.f5.params.toList args.toList ds p := hA0
  rw [Tryz.params5] at hA hval
  obtain ⟨v0, vs0, d0, ds0, p0, q0, hargs, rfl, rfl, h0, r0⟩ := trodAll_cons hA
  obtain ⟨rfl, rfl, rfl⟩ := trodAll_nil r0
  obtain rfl : args = #[v0] := by cases args; simp_all
  obtain ⟨rfl, rfl⟩ := trodVars_none hV
  obtain ⟨ns, rfl, len, wf⟩ := open_nums Tryz.underlying28 (by kernel_rfl) (by kernel_rfl) (hval 0 28 v0 rfl rfl) h0
  have lt0 : ∀ x ∈ p0, x.block < W.heap.size := by obtain ⟨m, hm⟩ := h0; exact DataW.trod_lt m _ _ _ hm
  clear hA0 hval0
  simp only [List.append_nil] at hW'
  refine (checks_calls ns len W).mono fun e W' ⟨he, bel⟩ => ?_
  subst he
  exact ⟨_, rfl, _, _, _, [], _, [], hW', trodAll_mk1 (shut_bool Tryz.underlying4 _), trodAll_cons_mk (Below.trod laidOut (by kernel_rfl) (of_decide_eq_true (by kernel_rfl)) h0 bel lt0) trodAll_mk0, rfl, bel.frame _, fun h => by cases h⟩

theorem over : Rows.ColumnChecksSaid :=
  OpenClaim.holds_of_wide 5 Tryz.f5 rfl rfl rfl rfl rfl rfl rfl ⟨rfl, rfl, rfl, rfl, rfl⟩ rfl rfl rfl rfl rfl (by kernel_rfl) Tryz.func5 (by kernel_rfl)
    (of_decide_eq_true (by kernel_rfl)) (by unfold Func.isWrapper; first | (rw [if_pos (by decide +kernel)]; kernel_rfl) | (rw [if_neg (by decide +kernel)]; exact ⟨rfl, rfl⟩))
    (fun os started H enc _ => lifted os started H enc)

end Go.Proofs.YtkdiccgfbfbjlaaGreat.columnChecks
