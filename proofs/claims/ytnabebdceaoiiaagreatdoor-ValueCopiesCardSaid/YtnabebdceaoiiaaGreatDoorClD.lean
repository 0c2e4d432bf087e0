/- Columns closed, in the document: the contract by which the evaluator takes it. -/
import Derived.Test.YtnabebdceaoiiaaGreatDoorClC
namespace Go.Proofs.YtnabebdceaoiiaaGreatDoor
open Go Go.Ev Go.RowKit
set_option linter.unusedVariables false
set_option linter.unusedSimpArgs false

theorem args_two {F : Nat → Prop} {w : World} {args : Array Value} {d e : D} (h1 : args.size = [d, e].length) (h2 : ∀ (i : Nat) v d', args[i]? = some v → [d, e][i]? = some d' → Rd F w v d') : ∃ v u, args = #[v, u] ∧ Rd F w v d ∧ Rd F w u e := by
  obtain ⟨l⟩ := args
  match l, h1 with
  | [v, u], _ => exact ⟨v, u, rfl, h2 0 v d rfl rfl, h2 1 u e rfl rfl⟩
theorem flags_rd {G : Nat → Prop} {w : World} {base g n cap : Nat} {bs : List Bool} (h : Fl base w g n cap bs) (hG : G g) (hcap : n ≤ cap) : Rd G w (.slice (some (ad3 g 0)) n cap) (.sl (bs.map D.bool)) := by
  have hl := h.len
  refine .sl g 0 n cap 1 _ (fun i _ => .bool (bs.getD i false)) (by simpa using hl) hcap (fun e he => ?_) (fun e he c hc => ?_) (fun i e he j c hc => ⟨hG, ?_⟩) fun i e he j c hc => ?_
  · obtain ⟨k, _, rfl⟩ := List.mem_map.1 he; rfl
  · obtain ⟨k, _, rfl⟩ := List.mem_map.1 he
    have : c ∈ [D.bool k] := hc
    rw [List.mem_singleton] at this; subst this; rfl
  · rw [List.getElem?_map, Option.map_eq_some_iff] at he
    obtain ⟨k, hk, rfl⟩ := he
    have hj : j = 0 := by
      have : j < [D.bool k].length := (List.getElem?_eq_some_iff.1 hc).1
      simpa using this
    subst hj
    have hi : i < bs.length := (List.getElem?_eq_some_iff.1 hk).1
    have := World.ownsRow.cellAt h i (by omega)
    rw [show 0 + i * 1 + 0 = i by omega]
    show w.cell? ⟨g, i, none⟩ = _
    rw [this]
    simp [hk, List.getD_eq_getElem?_getD]
  · rw [List.getElem?_map, Option.map_eq_some_iff] at he
    obtain ⟨k, hk, rfl⟩ := he
    have hj : j = 0 := by
      have : j < [D.bool k].length := (List.getElem?_eq_some_iff.1 hc).1
      simpa using this
    subst hj
    have hc' : D.bool k = c := by
      have : [D.bool k][0]? = some c := hc
      simpa using this
    subst hc'
    simp only [List.getD_eq_getElem?_getD, hk, Option.getD_some]
    exact .bool _
theorem aj2 {G : Nat → Prop} {w : World} {u v : Value} {c d : D} (h : Rd G w u c) (k : Rd G w v d) : Rd G w (.tuple #[u, v]) (.tup [c, d]) :=
  .tup [u, v] [c, d] rfl fun i v' c' h1 h2 => by
    match i, h1, h2 with
    | 0, h1, h2 => cases h1; cases h2; exact h
    | 1, h1, h2 => cases h1; cases h2; exact k
theorem aaa {cfg : Cfg} : Gives Tryz.prog cfg 19 ajt := by
  obtain ⟨c, hc⟩ : ∃ c, Tryz.f19.body = some c := Option.isSome_iff_exists.1 (by kernel_rfl)
  intro ds r hr F args w h1 h2 _ _
  unfold ajt at hr
  split at hr
  · rename_i ds cs
    split at hr
    · rename_i ns cols hns hcols
      split at hr
      · rename_i hok
        cases hr
        simp only [Bool.and_eq_true, decide_eq_true_eq] at hok
        obtain ⟨⟨ok, hn⟩, hcl⟩ := hok
        obtain ⟨v0, v1, rfl, r0, r1⟩ := args_two h1 h2
        rw [n7 hcols] at r1
        refine .inr ⟨di Tryz.func19 (by kernel_rfl) hc _ w, (aav ns ok hn cols hcl w v0 v1 (CnAt.of_rd hns r0) (NumAt.of_rd r1)).mono ?_⟩
        rintro e W' ⟨gr, g1, g2⟩
        unfold closeV
        cases hb : badC ns.length cols with
        | true =>
          rw [g1 hb]
          exact ⟨gr.size, fun b hb => gr.block b hb (by simp), ⟨gr.os, gr.tape, gr.output⟩, aj2 (.slA _ _) (.int _ _)⟩
        | false =>
          obtain ⟨g, cap, rfl, hf⟩ := g2 hb
          obtain ⟨_, _, hcap⟩ := ov hf
          have hg := World.ownsRow.lt hf g rfl
          exact ⟨gr.size, fun b hb => gr.block b hb (by simp), ⟨gr.os, gr.tape, gr.output⟩, aj2 (flags_rd hf (.inr hg.1) hcap) (.int _ _)⟩
      · cases hr
    · cases hr
  · cases hr
end Go.Proofs.YtnabebdceaoiiaaGreatDoor
