/- A copy of a value is apart: walked. -/
import Derived.Test.YtnabebdceaoiiaaGreatDoorCpC
namespace Go.Proofs.YtnabebdceaoiiaaGreatDoor
open Go Go.Ev Go.RowKit
set_option linter.unusedVariables false
set_option linter.unusedSimpArgs false

abbrev TV : TypeId := 29
/-- so many kids are copied -/
structure ClL (lo : Nat) (Wb wl : World) (l : Value) (v : Va) (m k : Nat) (cs : List Value) (bs : Value) : Prop where
  row : wl.ownsRow Wb.heap.size TV 5 l k cs
  sh : ∀ (i : Nat) y, i < k → v.kids[i]? = some y → ∃ e0 e1 e2 e3 e4, cs[i * 5]? = some e0 ∧ cs[i * 5 + 1]? = some e1 ∧ cs[i * 5 + 2]? = some e2 ∧ cs[i * 5 + 3]? = some e3 ∧ cs[i * 5 + 4]? = some e4 ∧ VaSh wl (fun q => lo ≤ q ∧ some q ≠ l.ownBlock) m [e0, e1, e2, e3, e4] y
  by_ : BySh wl (fun q => lo ≤ q ∧ some q ≠ l.ownBlock) bs v.b.length
  gr : Wb.grownBy wl none
theorem ClL.step {lo : Nat} {Wb wl w1 w2 w3 : World} {l l' : Value} {v : Va} {m k : Nat} {cs : List Value} {bs d0 d1 d2 d3 d4 : Value} {o : Obj} {y : Va} (L : ClL lo Wb wl l v m k cs bs) (hlo : lo ≤ wl.heap.size) (hy : v.kids[k]? = some y)
    (g1 : wl.grownBy w1 none) (g2 : w1.grownBy w2 none) (hs : VaSh w2 (fun q => w1.heap.size ≤ q) m [d0, d1, d2, d3, d4] y)
    (hown : w3.ownsRow Wb.heap.size TV 5 l' (k + 1) (cs ++ [d0, d1, d2, d3, d4])) (hgrow : (w2.alloc o).grownBy w3 l.ownBlock) (hloc : l'.ownBlock = l.ownBlock ∨ l'.ownBlock = some (w2.alloc o).heap.size) :
    ClL lo Wb w3 l' v m (k + 1) (cs ++ [d0, d1, d2, d3, d4]) bs := by
  have hl := fun q (h : l.ownBlock = some q) => L.row.lt q h
  have hcl : cs.length = k * 5 := L.row.1
  have s1 := g1.size
  have s2 := g2.size
  have s3 : (w2.alloc o).heap.size = w2.heap.size + 1 := by simp
  have gA : wl.grownBy w3 l.ownBlock := (g1.trans g2 |> fun h => (h.trans (World.grownBy_alloc w2 o none))) |> fun h => (jd h l.ownBlock).trans hgrow
  have gB : w2.grownBy w3 l.ownBlock := (World.grownBy_alloc w2 o l.ownBlock).trans hgrow
  have hA : ∀ q, (lo ≤ q ∧ some q ≠ l.ownBlock) → q < wl.heap.size → some q ≠ l.ownBlock ∧ (lo ≤ q ∧ some q ≠ l'.ownBlock) := fun q hq hlt => ⟨hq.2, hq.1, by
    rcases hloc with e | e
    · rw [e]; exact hq.2
    · rw [e]; intro e2; cases e2; omega⟩
  refine ⟨hown, fun i z hi hz => ?_, L.by_.grown gA hA, ⟨hgrow.os.trans (g2.os.trans (g1.os.trans L.gr.os)), hgrow.tape.trans (g2.tape.trans (g1.tape.trans L.gr.tape)), hgrow.output.trans (g2.output.trans (g1.output.trans L.gr.output)), Nat.le_trans L.gr.size gA.size, fun b hb _ => ?_⟩⟩
  · by_cases hik : i < k
    · obtain ⟨e0, e1, e2, e3, e4, q0, q1, q2, q3, q4, hq⟩ := L.sh i z hik hz
      refine ⟨e0, e1, e2, e3, e4, ?_, ?_, ?_, ?_, ?_, VaSh.grown gA hA m hq⟩ <;> (rw [List.getElem?_append_left (by omega)]; assumption)
    · have : i = k := by omega
      subst this
      rw [hy] at hz
      cases hz
      refine ⟨d0, d1, d2, d3, d4, ?_, ?_, ?_, ?_, ?_, VaSh.grown gB (fun q hq hlt => ?_) m hs⟩
      · rw [List.getElem?_append_right (by omega), show i * 5 - cs.length = 0 by omega]; rfl
      · rw [List.getElem?_append_right (by omega), show i * 5 + 1 - cs.length = 1 by omega]; rfl
      · rw [List.getElem?_append_right (by omega), show i * 5 + 2 - cs.length = 2 by omega]; rfl
      · rw [List.getElem?_append_right (by omega), show i * 5 + 3 - cs.length = 3 by omega]; rfl
      · rw [List.getElem?_append_right (by omega), show i * 5 + 4 - cs.length = 4 by omega]; rfl
      · refine ⟨fun e => ?_, by omega, fun e => ?_⟩
        · have := (hl q e.symm).2; omega
        · rcases hloc with e2 | e2
          · rw [e2] at e; have := (hl q e.symm).2; omega
          · rw [e2] at e; cases e; omega
  · rw [gA.block b (Nat.lt_of_lt_of_le hb L.gr.size) (fun e => by have := (hl b e.symm).1; omega)]
    exact L.gr.block b hb (by simp)
/-- a value's cells, as they lie -/
theorem ii {W : World} {vv : Value} {v : Va} (h : Rd anyB W vv v.d) : ∃ bv ka kc, vv = .agg #[.bool v.null, .int .i64 v.i, .int .i64 v.n, bv, .slice ka v.kids.length kc] ∧ Rd anyB W bv (txt v.b) ∧
    ∀ (i : Nat) k, v.kids[i]? = some k → ∃ b o c0 c1 c2 c3 c4, ka = some (ad3 b o) ∧ W.cell? (ad3 b (o + i * 5)) = some c0 ∧ W.cell? (ad3 b (o + i * 5 + 1)) = some c1 ∧ W.cell? (ad3 b (o + i * 5 + 2)) = some c2 ∧ W.cell? (ad3 b (o + i * 5 + 3)) = some c3 ∧ W.cell? (ad3 b (o + i * 5 + 4)) = some c4 ∧ Rd anyB W (.agg #[c0, c1, c2, c3, c4]) k.d := by
  rw [v.d_eq] at h
  generalize hcs : [D.bool v.null, .int .i64 v.i, .int .i64 v.n, txt v.b, .sl (v.kids.map Va.d)] = cs at h
  cases h with
  | agg vs cs' hl hcc hr =>
    subst hcs
    match vs, hl with
    | [c0, c1, c2, c3, c4], _ =>
      have r0 := hr 0 _ _ rfl rfl
      have r1 := hr 1 _ _ rfl rfl
      have r2 := hr 2 _ _ rfl rfl
      have r3 := hr 3 _ _ rfl rfl
      have r4 := hr 4 _ _ rfl rfl
      obtain rfl := r0.bool_inv
      obtain rfl := r1.int_inv
      obtain rfl := r2.int_inv
      generalize hes : v.kids.map Va.d = es at r4
      cases r4 with
      | slA ad cap =>
        have : v.kids = [] := List.map_eq_nil_iff.1 hes
        refine ⟨c3, ad, cap, by rw [this]; rfl, r3, fun i k hk => by rw [this] at hk; simp at hk⟩
      | sl b o len cap z es' us hlen hcap hz hc hm hh =>
        subst hes
        rw [List.length_map] at hlen
        refine ⟨c3, some (ad3 b o), cap, by rw [hlen], r3, fun i k hk => ?_⟩
        have he : (v.kids.map Va.d)[i]? = some k.d := by rw [List.getElem?_map, hk]; rfl
        have hz5 : z = 5 := by rw [← hz _ (List.mem_of_getElem? he), cells_va]; rfl
        subst hz5
        have hcell : ∀ j c, k.d.cells[j]? = some c → W.cell? (ad3 b (o + i * 5 + j)) = some (us i j) ∧ Rd anyB W (us i j) c := fun j c hj => ⟨(hm i _ he j c hj).2, hh i _ he j c hj⟩
        rw [cells_va] at hcell
        refine ⟨b, o, us i 0, us i 1, us i 2, us i 3, us i 4, rfl, (hcell 0 _ rfl).1, (hcell 1 _ rfl).1, (hcell 2 _ rfl).1, (hcell 3 _ rfl).1, (hcell 4 _ rfl).1, ?_⟩
        rw [k.d_eq]
        refine .agg [us i 0, us i 1, us i 2, us i 3, us i 4] _ rfl (fun c hc => ?_) fun j u c hu hc => ?_
        · simp only [List.mem_cons, List.not_mem_nil, or_false] at hc
          rcases hc with rfl | rfl | rfl | rfl | rfl <;> rfl
        · match j, hu, hc with
          | 0, hu, hc => cases hu; cases hc; exact (hcell 0 _ rfl).2
          | 1, hu, hc => cases hu; cases hc; exact (hcell 1 _ rfl).2
          | 2, hu, hc => cases hu; cases hc; exact (hcell 2 _ rfl).2
          | 3, hu, hc => cases hu; cases hc; exact (hcell 3 _ rfl).2
          | 4, hu, hc => cases hu; cases hc; exact (hcell 4 _ rfl).2
          | j + 5, hu, _ => simp at hu
end Go.Proofs.YtnabebdceaoiiaaGreatDoor
