/- The row of the law DictWorth, and its card: for every input the law returns true, and each argument reads behind the call as it read before. No condition. -/
import Derived.Test.YtghhloejmikdfaaRow1
import Derived.Test.YtghhloejmikdfaaLawDictWorth
namespace Go.Proofs.Ytghhloejmikdfaa.dictWorth
open Go Go.Ev Go.ChangeShapes Go.WideShapes Go.ChangeAt Go.RowKit
open Go.ChangeMaps (open_string shut_string)
set_option linter.unusedVariables false

theorem body : ∃ c, Try.f7.body = some c := Option.isSome_iff_exists.1 (by kernel_rfl)

theorem walk (v0 : Value) (a0 : List Tx) (v1 : Value) (a1 : Int) (v2 : Value) (a2 : Int) (m0 : a0.length ≤ maxLen) (w1 : (Lit.int .i64 a1).wf = true) (w2 : (Lit.int .i64 a2).wf = true) (w : World) (k0 : Rd anyB w v0 (.sl (a0.map txt))) (k1 : Rd anyB w v1 (.int .i64 a1)) (k2 : Rd anyB w v2 (.int .i64 a2)) :
    Calls Try.prog 7 #[v0, v1, v2] w fun e w' => e = .returned (.bool true) ∧ Below w.heap.size w w' := by
  obtain ⟨c, hc⟩ := body
  refine calls_true (ds := [.sl (a0.map txt), .int .i64 a1, .int .i64 a2]) follows cfg_ok funcs_ok ext_ok Try.func7 (by kernel_rfl) hc (rowDictWorth a0 a1 a2 m0 w1 w2) rfl (fun i v d h1 h2 => ?_) (fun n e h => by cases h) (fun n ob h => by cases h)
  match i, h1, h2 with
  | 0, h1, h2 => cases h1; cases h2; exact k0
  | 1, h1, h2 => cases h1; cases h2; exact k1
  | 2, h1, h2 => cases h1; cases h2; exact k2
  | i + 3, h1, h2 => simp at h1

set_option maxRecDepth 100000 in
theorem lifted (os : Os) (started : os.Started) (H : Type) (enc : TypeId × Value → H) :
    ReturnsInHanded {} Try.checked os 7 .any (Rows.dictWorthSpec.pre6 enc Try.prog Try.f7 [] false)
      (Rows.dictWorthSpec.post enc Try.prog Try.f7 false true false false) := by
  refine returnsInHanded_of_change (C := Try.checked) own started (by kernel_rfl) Try.func7 ?_ ?_
  · obtain ⟨w, tape, i, h1, h2, h3, h4, ⟨⟨h5, _⟩, h6⟩, h7⟩ := ChangeSpec.witness_shaped (enc := enc) (C := Try.checked) (os := os) (s := Rows.dictWorthSpec) (conds := []) (apart := false) (X := fun _ _ => True) false (laidWorld os) #[.slice none 0 0, .int .i64 0, .int .i64 0] 8 rfl (World.shaped_of_RefB (by kernel_rfl) (by kernel_rfl)) (by kernel_rfl) (by kernel_rfl) (by kernel_rfl) trivial
    exact ⟨w, tape, i, h1, h2, h3, h4, ⟨h5, h6⟩, h7⟩
  intro W base args ds gs before hval0 hW _ _
  have hval : ∀ (j : Nat) t v, Try.f7.params[j]? = some t → args[j]? = some v → Value.okWide Try.prog W .any base t v := hval0
  have hW' := hW
  obtain ⟨p, q, hA0, hV, rfl, hfz, hnd⟩ := hW
  have hA : DataW.TrodAll enc Try.prog W 0 (fun _ => true) true Try.f7.params.toList args.toList ds p := hA0
  rw [Try.params7] at hA hval
  obtain ⟨v0, vs0, d0, ds0, p0, q0, hargs, rfl, rfl, h0, r0⟩ := trodAll_cons hA
  obtain ⟨v1, vs1, d1, ds1, p1, q1, rfl, rfl, rfl, h1, r1⟩ := trodAll_cons r0
  obtain ⟨v2, vs2, d2, ds2, p2, q2, rfl, rfl, rfl, h2, r2⟩ := trodAll_cons r1
  obtain ⟨rfl, rfl, rfl⟩ := trodAll_nil r2
  obtain rfl : args = #[v0, v1, v2] := by cases args; simp_all
  obtain ⟨rfl, rfl⟩ := trodVars_none hV
  obtain ⟨x0, l0, c0, rfl⟩ := okWide_slice Try.underlying22 (hval 0 22 v0 rfl rfl)
  have lt0 : ∀ x ∈ p0, x.block < W.heap.size := by obtain ⟨m, hm⟩ := h0; exact DataW.trod_lt m _ _ _ hm
  obtain ⟨a0, m0, k0⟩ := read_texts Try.underlying22 Try.underlying37 Try.underlying5 (by kernel_rfl) (by kernel_rfl) rfl h0
  obtain ⟨a1, rfl, rfl, rfl, w1⟩ := open_int Try.underlying3 (hval 1 3 v1 rfl rfl) h1
  obtain ⟨a2, rfl, rfl, rfl, w2⟩ := open_int Try.underlying3 (hval 2 3 v2 rfl rfl) h2
  clear hA0 hval0
  simp only [List.append_nil] at hW'
  refine (walk _ a0 _ a1 _ a2 m0 w1 w2 W k0 (.int _ _) (.int _ _)).mono fun e W' ⟨he, bel⟩ => ?_
  subst he
  exact ⟨_, rfl, _, _, _, [], _, [], hW', trodAll_mk1 (shut_bool Try.underlying4 _), (trodAll_cons_mk (Below.trod laidOut (by kernel_rfl) (of_decide_eq_true (by kernel_rfl)) h0 bel lt0) (trodAll_cons_mk (shut_int Try.underlying3 w1) (trodAll_cons_mk (shut_int Try.underlying3 w2) trodAll_mk0))), rfl, bel.frame _, fun h => by cases h⟩

theorem over : Rows.DictWorthSaid :=
  OpenClaim.holds_of_wide 7 Try.f7 rfl rfl rfl rfl rfl rfl rfl ⟨rfl, rfl, rfl, rfl, rfl⟩ rfl rfl rfl rfl rfl (by kernel_rfl) Try.func7 (by kernel_rfl)
    (of_decide_eq_true (by kernel_rfl)) (by unfold Func.isWrapper; first | (rw [if_pos (by decide +kernel)]; kernel_rfl) | (rw [if_neg (by decide +kernel)]; exact ⟨rfl, rfl⟩))
    (fun os started H enc _ => lifted os started H enc)

end Go.Proofs.Ytghhloejmikdfaa.dictWorth
