/- The row of the law DictBytes, and its card: for every input the law returns true, and each argument reads behind the call as it read before. No condition. -/
import Derived.Test.YtghhloejmikdfaaRow1
import Derived.Test.YtghhloejmikdfaaLawDictBytes
namespace Go.Proofs.Ytghhloejmikdfaa.dictBytes
open Go Go.Ev Go.ChangeShapes Go.WideShapes Go.ChangeAt Go.RowKit
open Go.ChangeMaps (open_string shut_string)
set_option linter.unusedVariables false

theorem body : ∃ c, Try.f4.body = some c := Option.isSome_iff_exists.1 (by kernel_rfl)

theorem walk (v0 : Value) (a0 : List UInt8) (v1 : Value) (a1 : List Int) (v2 : Value) (a2 : List Tx) (v3 : Value) (a3 : List Int) (m0 : a0.length ≤ maxLen) (m1 : a1.length ≤ maxLen) (m2 : a2.length ≤ maxLen) (m3 : a3.length ≤ maxLen) (w1 : ∀ n ∈ a1, (Lit.int .i64 n).wf = true) (w3 : ∀ n ∈ a3, (Lit.int .i64 n).wf = true) (w : World) (k0 : Rd anyB w v0 (.sl (a0.map byteD))) (k1 : Rd anyB w v1 (.sl (a1.map (D.int .i64)))) (k2 : Rd anyB w v2 (.sl (a2.map txt))) (k3 : Rd anyB w v3 (.sl (a3.map (D.int .i64)))) :
    Calls Try.prog 4 #[v0, v1, v2, v3] w fun e w' => e = .returned (.bool true) ∧ Below w.heap.size w w' := by
  obtain ⟨c, hc⟩ := body
  refine calls_true (ds := [.sl (a0.map byteD), .sl (a1.map (D.int .i64)), .sl (a2.map txt), .sl (a3.map (D.int .i64))]) follows cfg_ok funcs_ok ext_ok Try.func4 (by kernel_rfl) hc (rowDictBytes a0 a1 a2 a3 m0 m1 m2 m3 w1 w3) rfl (fun i v d h1 h2 => ?_) (fun n e h => by cases h) (fun n ob h => by cases h)
  match i, h1, h2 with
  | 0, h1, h2 => cases h1; cases h2; exact k0
  | 1, h1, h2 => cases h1; cases h2; exact k1
  | 2, h1, h2 => cases h1; cases h2; exact k2
  | 3, h1, h2 => cases h1; cases h2; exact k3
  | i + 4, h1, h2 => simp at h1

set_option maxRecDepth 100000 in
theorem lifted (os : Os) (started : os.Started) (H : Type) (enc : TypeId × Value → H) :
    ReturnsInHanded {} Try.checked os 4 .any (Rows.dictBytesSpec.pre6 enc Try.prog Try.f4 [] false)
      (Rows.dictBytesSpec.post enc Try.prog Try.f4 false true false false) := by
  refine returnsInHanded_of_change (C := Try.checked) own started (by kernel_rfl) Try.func4 ?_ ?_
  · obtain ⟨w, tape, i, h1, h2, h3, h4, ⟨⟨h5, _⟩, h6⟩, h7⟩ := ChangeSpec.witness_shaped (enc := enc) (C := Try.checked) (os := os) (s := Rows.dictBytesSpec) (conds := []) (apart := false) (X := fun _ _ => True) false (laidWorld os) #[.slice none 0 0, .slice none 0 0, .slice none 0 0, .slice none 0 0] 8 rfl (World.shaped_of_RefB (by kernel_rfl) (by kernel_rfl)) (by kernel_rfl) (by kernel_rfl) (by kernel_rfl) trivial
    exact ⟨w, tape, i, h1, h2, h3, h4, ⟨h5, h6⟩, h7⟩
  intro W base args ds gs before hval0 hW _ _
  have hval : ∀ (j : Nat) t v, Try.f4.params[j]? = some t → args[j]? = some v → Value.okWide Try.prog W .any base t v := hval0
  have hW' := hW
  obtain ⟨p, q, hA0, hV, rfl, hfz, hnd⟩ := hW
  have hA : DataW.TrodAll enc Try.prog W 0 (fun _ => true) true Try.f4.params.toList args.toList ds p := hA0
  rw [Try.params4] at hA hval
  obtain ⟨v0, vs0, d0, ds0, p0, q0, hargs, rfl, rfl, h0, r0⟩ := trodAll_cons hA
  obtain ⟨v1, vs1, d1, ds1, p1, q1, rfl, rfl, rfl, h1, r1⟩ := trodAll_cons r0
  obtain ⟨v2, vs2, d2, ds2, p2, q2, rfl, rfl, rfl, h2, r2⟩ := trodAll_cons r1
  obtain ⟨v3, vs3, d3, ds3, p3, q3, rfl, rfl, rfl, h3, r3⟩ := trodAll_cons r2
  obtain ⟨rfl, rfl, rfl⟩ := trodAll_nil r3
  obtain rfl : args = #[v0, v1, v2, v3] := by cases args; simp_all
  obtain ⟨rfl, rfl⟩ := trodVars_none hV
  obtain ⟨x0, l0, c0, rfl⟩ := okWide_slice Try.underlying37 (hval 0 37 v0 rfl rfl)
  have lt0 : ∀ x ∈ p0, x.block < W.heap.size := by obtain ⟨m, hm⟩ := h0; exact DataW.trod_lt m _ _ _ hm
  obtain ⟨a0, m0, k0⟩ := read_bytes Try.underlying37 Try.underlying5 (by kernel_rfl) rfl h0
  obtain ⟨x1, l1, c1, rfl⟩ := okWide_slice Try.underlying25 (hval 1 25 v1 rfl rfl)
  have lt1 : ∀ x ∈ p1, x.block < W.heap.size := by obtain ⟨m, hm⟩ := h1; exact DataW.trod_lt m _ _ _ hm
  obtain ⟨a1, m1, w1, k1⟩ := read_ints Try.underlying25 Try.underlying2 (by kernel_rfl) rfl h1
  obtain ⟨x2, l2, c2, rfl⟩ := okWide_slice Try.underlying22 (hval 2 22 v2 rfl rfl)
  have lt2 : ∀ x ∈ p2, x.block < W.heap.size := by obtain ⟨m, hm⟩ := h2; exact DataW.trod_lt m _ _ _ hm
  obtain ⟨a2, m2, k2⟩ := read_texts Try.underlying22 Try.underlying37 Try.underlying5 (by kernel_rfl) (by kernel_rfl) rfl h2
  obtain ⟨x3, l3, c3, rfl⟩ := okWide_slice Try.underlying25 (hval 3 25 v3 rfl rfl)
  have lt3 : ∀ x ∈ p3, x.block < W.heap.size := by obtain ⟨m, hm⟩ := h3; exact DataW.trod_lt m _ _ _ hm
  obtain ⟨a3, m3, w3, k3⟩ := read_ints Try.underlying25 Try.underlying2 (by kernel_rfl) rfl h3
  clear hA0 hval0
  simp only [List.append_nil] at hW'
  refine (walk _ a0 _ a1 _ a2 _ a3 m0 m1 m2 m3 w1 w3 W k0 k1 k2 k3).mono fun e W' ⟨he, bel⟩ => ?_
  subst he
  exact ⟨_, rfl, _, _, _, [], _, [], hW', trodAll_mk1 (shut_bool Try.underlying4 _), (trodAll_cons_mk (Below.trod laidOut (by kernel_rfl) (of_decide_eq_true (by kernel_rfl)) h0 bel lt0) (trodAll_cons_mk (Below.trod laidOut (by kernel_rfl) (of_decide_eq_true (by kernel_rfl)) h1 bel lt1) (trodAll_cons_mk (Below.trod laidOut (by kernel_rfl) (of_decide_eq_true (by kernel_rfl)) h2 bel lt2) (trodAll_cons_mk (Below.trod laidOut (by kernel_rfl) (of_decide_eq_true (by kernel_rfl)) h3 bel lt3) trodAll_mk0)))), rfl, bel.frame _, fun h => by cases h⟩

theorem over : Rows.DictBytesSaid :=
  OpenClaim.holds_of_wide 4 Try.f4 rfl rfl rfl rfl rfl rfl rfl ⟨rfl, rfl, rfl, rfl, rfl⟩ rfl rfl rfl rfl rfl (by kernel_rfl) Try.func4 (by kernel_rfl)
    (of_decide_eq_true (by kernel_rfl)) (by unfold Func.isWrapper; first | (rw [if_pos (by decide +kernel)]; kernel_rfl) | (rw [if_neg (by decide +kernel)]; exact ⟨rfl, rfl⟩))
    (fun os started H enc _ => lifted os started H enc)

end Go.Proofs.Ytghhloejmikdfaa.dictBytes
