/- FileWrong: file.Write hands on what file.check tells. Own work. -/
import Derived.Test.YtinnmaeeeohkeaaGreatDoorFwF
namespace Go.Proofs.YtinnmaeeeohkeaaGreatDoor
open Go Go.RowKit Go.Me
set_option linter.unusedVariables false
set_option linter.unusedSimpArgs false
set_option maxRecDepth 100000

theorem write_bad (X : List Nat) (St : World → Prop) (hSt : ∀ a b, St a → a.grownBy b none → St b) (k0 : Int) (nm kd rs : Value) (s : List UInt8) (i g : Int) (a b c d e f : Int)
    (hC : ∀ w, (∀ x ∈ X, x < w.heap.size) → St w → Calls Tryz.prog 17 #[.agg #[.int .i64 k0, nm, kd, .int .i64 0, .int .i64 0, .int .i64 0], rs, .slice none 0 0, .agg #[.int .i64 a, .int .i64 b, .int .i64 c, .int .i64 d, .int .i64 e, .int .i64 f]] w fun e' w' => ∃ F, e' = .returned (.iface 44 (.pointer (some ⟨F, 0, none⟩))) ∧ Mov X w w' ∧ St w' ∧ w.heap.size ≤ F ∧ FaultAt w' F s i g)
    (w : World) (hX : ∀ x ∈ X, x < w.heap.size) (h0 : St w) :
    Calls Tryz.prog 5 #[.agg #[.int .i64 k0, nm, kd, .int .i64 0, .int .i64 0, .int .i64 0], rs, .slice none 0 0, .agg #[.int .i64 a, .int .i64 b, .int .i64 c, .int .i64 d, .int .i64 e, .int .i64 f]] w fun e' w' => ∃ F, e' = .returned (.tuple #[.slice none 0 0, .iface 44 (.pointer (some ⟨F, 0, none⟩))]) ∧ Mov X w w' ∧ St w' ∧ w.heap.size ≤ F ∧ FaultAt w' F s i g := by
  have g2 : w.grownBy ((w.alloc (.cells #[.int .i64 k0, nm, kd, .int .i64 0, .int .i64 0, .int .i64 0] 28)).alloc (.cells #[.int .i64 a, .int .i64 b, .int .i64 c, .int .i64 d, .int .i64 e, .int .i64 f] 23)) none := grown_alloc (World.grownBy_alloc _ _ _) _
  have hc := hC _ (fun x hx => Nat.lt_of_lt_of_le (hX x hx) g2.size) (hSt _ _ h0 g2)
  replace hc : Aside _ := hc
  replace g2 : Aside _ := g2
  clear hC hSt h0 hX
  go_enter Tryz.func5, Tryz.ntmps5
  go_wp2_with (first
    | (go_at_call 17; go_must (
        refine Calls.mono hc.out ?_; rintro e' w7 ⟨F, rfl, m7, s7, hF, hFa⟩
        have m := (Mov.grown (X := X) g2.out).trans m7
        have hFb := Nat.le_trans g2.out.size hF
        replace m : Aside _ := m
        replace hFb : Aside _ := hFb
        replace s7 : Aside _ := s7
        replace hFa : Aside _ := hFa
        clear m7 hF hc g2))
    | go_in)
  refine bodyPost_ret (v := .tuple #[.slice none 0 0, .iface 44 (.pointer (some ⟨F, 0, none⟩))]) (by simp [results, Tryz.results5, go_sem]) rfl ⟨F, rfl, m.out, s7.out, hFb.out, hFa.out⟩
end Go.Proofs.YtinnmaeeeohkeaaGreatDoor
