/- dict's rising gives what its contract says. Own work. -/
import Derived.Test.YtghhloejmikdfaaRisE
namespace Go.Proofs.Ytghhloejmikdfaa
open Go Go.Ev Go.RowKit Go.Lib Go.Sort
set_option linter.unusedVariables false
set_option linter.unusedSimpArgs false

set_option maxHeartbeats 4000000 in
theorem rising_full {F : Nat → Prop} (v : Value) (l : List Tx) (w : World) (hne : l ≠ []) (hl : l.length ≤ 1000000) (hv : Rd F w v (.sl (l.map txt))) :
    Calls Try.prog 21 #[v] w fun e w' => ∃ g cap, e = .returned (.slice (some (ad3 g 0)) (riseT l).length cap) ∧ w.heap.size ≤ g ∧ g < w'.heap.size ∧ (riseT l).length ≤ cap ∧ NoFz w' g ∧ Arr (fun b => F b ∧ b < w.heap.size) w' g 0 cap 1 ((riseT l).map txt) ∧
      w.heap.size ≤ w'.heap.size ∧ (∀ b, b < w.heap.size → w'.heap[b]? = w.heap[b]?) ∧ SameIO w w' := by
  obtain ⟨b, o, cap, vs, rfl, hcell, hrd⟩ : ∃ b o cap, ∃ vs : Nat → Value, v = .slice (some (ad3 b o)) l.length cap ∧ (∀ i, i < l.length → w.cell? (ad3 b (o + i)) = some (vs i)) ∧ ∀ i x, l[i]? = some x → Rd F w (vs i) (txt x) := by
    generalize hd : l.map txt = es at hv
    cases hv with
    | slA ad cap => exact absurd (by simpa using hd) hne
    | sl b o len cap z es vs hlen hcap hz hc hm hr =>
      subst hd
      rw [List.length_map] at hlen
      subst hlen
      have hz1 : z = 1 := by
        cases l with
        | nil => exact absurd rfl hne
        | cons y r => exact (hz (txt y) (by simp)).symm
      subst hz1
      have he : ∀ i x, l[i]? = some x → (l.map txt)[i]? = some (txt x) := fun i x hx => by rw [List.getElem?_map, hx]; rfl
      refine ⟨b, o, cap, fun i => vs i 0, rfl, fun i hi => ?_, fun i x hx => hr i _ (he i x hx) 0 (txt x) rfl⟩
      have := (hm i _ (he i _ (List.getElem?_eq_getElem hi)) 0 _ rfl).2
      simpa using this
  have hn : 0 < l.length := List.length_pos_iff.2 hne
  obtain ⟨E, hE⟩ : ∃ E : Nat → Value, E = fun i => vs (min i (l.length - 1)) := ⟨_, rfl⟩
  obtain ⟨T, hTd⟩ : ∃ T : Nat → Tx, T = fun i => (l[min i (l.length - 1)]?).getD [] := ⟨_, rfl⟩
  have hT : ∀ i x, l[i]? = some x → T i = x := fun i x hx => by
    have hlt := (List.getElem?_eq_some_iff.1 hx).1
    rw [hTd]
    simp only
    rw [show min i (l.length - 1) = i by omega, hx]
    rfl
  have hER : ∀ i, Rd F w (E i) (txt (T i)) := fun i => by
    have hm : min i (l.length - 1) < l.length := by omega
    rw [hE, hTd]
    simp only
    rw [List.getElem?_eq_getElem hm]
    exact hrd _ _ (List.getElem?_eq_getElem hm)
  have hEc : ∀ i, i < l.length → E i = vs i := fun i hi => by rw [hE]; simp only; rw [show min i (l.length - 1) = i by omega]
  have hS : ∀ i, ∃ p m c, E i = .slice p m c := fun i => by
    obtain ⟨ad, cap, h, _⟩ := (by have := hER i; rw [txt_nums] at this; exact this.nums_at)
    exact ⟨_, _, _, h⟩
  have hone : ∀ u ∈ (List.range l.length).map vs, u.oneCell' = true := fun u hu => by
    obtain ⟨i, hi, rfl⟩ := List.mem_map.1 hu
    rw [← hEc i (List.mem_range.1 hi)]
    obtain ⟨p, m, c, e⟩ := hS i
    rw [e]; rfl
  have hC := clone_row b o l.length cap ((List.range l.length).map vs) w (by simp) hl (fun j u hj => by
    rw [List.getElem?_map, Option.map_eq_some_iff] at hj
    obtain ⟨i, hi, rfl⟩ := hj
    have hlt := (List.getElem?_eq_some_iff.1 hi).1
    rw [List.getElem?_eq_getElem hlt] at hi
    simp at hi hlt
    subst hi
    exact hcell j hlt) hone
  -- behind the clone
  have hC2 : Calls Try.prog 29 #[.slice (some ⟨b, o, none⟩) l.length cap] w fun e w1 => ∃ g c1, e = .returned (.slice (some ⟨g, 0, none⟩) l.length c1) ∧ w.heap.size ≤ g ∧ g < w1.heap.size ∧ l.length ≤ c1 ∧ NoFz w1 g ∧ Holds E w1 g 0 (Array.range l.length) ∧
      (∀ j, j < c1 → (∃ u, w1.cell? (ad3 g j) = some u) ∧ w1.frozen? (ad3 g j) = false) ∧ Below w.heap.size w w1 := by
    refine hC.mono fun e w1 ⟨v', he, hown, hnn, hB⟩ => ?_
    rcases hown.2 with ⟨h, _⟩ | ⟨g, c1, cur, rfl, hbg, hg, hnc, hcm, hcs, htake⟩
    · exact absurd h hnn
    have hcell1 : ∀ j, w1.cell? (ad3 g j) = cur[j]? := fun j => by simp [World.cell?, hg]
    have hfz : ∀ j, w1.frozen? (ad3 g j) = false := fun j => by simp [World.frozen?, hg]
    refine ⟨g, c1, he, hbg, (Array.getElem?_eq_some_iff.1 hg).1, hnc, fun c t lo hi h hne' => ?_, fun j hj => ⟨?_, hfz _⟩, fun j hj => ⟨⟨cur[j]'(by omega), ?_⟩, hfz j⟩, hB⟩
    · rw [hg] at h; cases h; exact absurd rfl hne'
    · rw [Array.size_range] at hj
      have h1 := hcell1 (0 + j)
      rw [Nat.zero_add] at h1 ⊢
      refine Eq.trans h1 ?_
      have h2 : cur.toList[j]? = some (vs j) := by
        have := congrArg (·[j]?) htake
        simp only [List.getElem?_map, List.getElem?_range hj] at this
        rw [List.getElem?_take_of_lt (by omega)] at this
        exact this
      rw [← Array.getElem?_toList, h2, getElem!_pos _ _ (by rw [Array.size_range]; exact hj), Array.getElem_range, hEc j hj]
    · rw [hcell1]; exact Array.getElem?_eq_getElem _
  clear hC hone hcell hrd hv hE hTd
  have HER : Aside (∀ i, Rd F w (E i) (txt (T i))) := hER
  have HS : Aside (∀ i, ∃ p m c, E i = .slice p m c) := hS
  have HT : Aside (∀ i x, l[i]? = some x → T i = x) := hT
  clear hER hS hT hEc
  go_enter Try.func21, Try.ntmps21
  go_wp2_with (go_at_call 29; refine hC2.mono ?_; rintro e w1 ⟨g, c1, rfl, hg1, hg2, hc1, hNF, hH, hroom, hB⟩)
  have hF1 : ∀ b, (F b ∧ b < w.heap.size) → b ≠ g ∧ b < w1.heap.size := fun b hb => ⟨by omega, Nat.lt_of_lt_of_le hb.2 hB.size⟩
  have hR1 : ∀ i, Rd (fun b => F b ∧ b < w.heap.size) w1 (E i) (txt (T i)) := fun i => (HER.out i).mono fun b o u hF hc => by
    have hlt : b < w.heap.size := by have := World.block_lt_of_cell? _ _ hc; simpa using this
    exact ⟨⟨hF, hlt⟩, by rw [cell_of_heap (hB.block b hlt)]; exact hc⟩
  have hSo := sort_texts E T g c1 l.length w1 hn hl hF1 hg2 HS.out hR1 hH
  go_wp2_with (go_at_call 30; refine hSo.mono ?_; rintro e w2 ⟨rfl, d', q, os, hP, hSS, rfl⟩)
  have hz : d'.size = l.length := by have := hP.1; rwa [Array.size_range] at this
  have hH2 : Holds E (sortWorld E w1 g 0 q d' os) g 0 d' := holds_sortWorld E w1 g 0 q _ d' os hg2 hH (by rw [hz, Array.size_range])
  obtain ⟨o1, o2, o3, o4, o5⟩ := sortWorld_only (E := E) (w := w1) (blk := g) (off := 0) (q := q) (d := d') (os := os) hg2
  have hcp := compact_arr (F := fun b => F b ∧ b < w.heap.size) E T g 0 c1 d' (sortWorld E w1 g 0 q d' os) HS.out (fun b hb => (hF1 b hb).1) (fun i => rd_sortWorld hF1 (hR1 i)) hH2 (by omega) (by omega)
  have hR2 : ∀ i, Rd (fun b => F b ∧ b < w.heap.size) (sortWorld E w1 g 0 q d' os) (E i) (txt (T i)) := fun i => rd_sortWorld hF1 (hR1 i)
  rw [hz] at hcp
  generalize sortWorld E w1 g 0 q d' os = w2 at hcp o1 o2 o3 o4 o5 hR2 hH2 ⊢
  go_wp2_with (go_at_call 31; refine hcp.mono ?_; rintro e w3 ⟨rfl, hO, hcells⟩)
  go_wp2
  go_ret
  have hrise := cpT_riseT HT.out hP hSS
  have hlen : (cpT T d' l.length).length = (riseT l).length := by rw [← hrise, List.length_map]
  have hlr := riseT_length l
  refine ⟨g, c1, by rw [hlen]; rfl, hg1, ?_, by omega, hO.nofz (o5 hNF), ⟨by decide, fun j hj => ?_, fun e he => ?_, fun e he c hc => ?_, fun i e he j c hc => ?_⟩, ?_, fun b hb => ?_, ?_⟩
  · rw [hO.size]; omega
  · rw [Nat.mul_one] at hj
    obtain ⟨h1, h2⟩ := hroom j hj
    obtain ⟨h3, h4⟩ := o4 j h1
    rw [Nat.zero_add]
    exact ⟨let ⟨u, hu⟩ := h3; hO.keep j u hu, by rw [hO.froz j h3, h4]; exact h2⟩
  · obtain ⟨x, _, rfl⟩ := List.mem_map.1 he; rfl
  · obtain ⟨x, _, rfl⟩ := List.mem_map.1 he
    rw [List.mem_singleton.1 hc]; rfl
  · rw [← hrise, List.map_map, List.getElem?_map, Option.map_eq_some_iff] at he
    obtain ⟨i', hi', rfl⟩ := he
    cases j with
    | zero =>
      cases hc
      refine ⟨E i', ?_, rd_only hO (fun b hb => (hF1 b hb).1) (hR2 i')⟩
      have := hcells i i' hi'
      simpa using this
    | succ j => cases hc
  · rw [hO.size]; exact Nat.le_trans hB.size o2
  · rw [hO.other b (by omega), o1 b (Nat.lt_of_lt_of_le hb hB.size) (by omega), hB.block b hb]
  · exact (SameIO.trans ⟨hB.os, hB.tape, hB.output⟩ o3).trans hO.io

theorem bodyRise : ∃ c, Try.f21.body = some c := Option.isSome_iff_exists.1 (by kernel_rfl)
theorem gives_rising : Gives Try.prog cfg 21 xRising := by
  intro ds r hr F args w h1 h2 _ _
  obtain ⟨c, hb⟩ := bodyRise
  unfold xRising at hr
  split at hr
  · cases hr
    obtain ⟨v, rfl, hv⟩ := args_one h1 h2
    refine .inr ⟨run_enter Try.func21 (by kernel_rfl) hb _ w, ?_⟩
    have hv' : ∃ ad cap, v = .slice ad 0 cap := by
      cases hv with
      | slA ad cap => exact ⟨_, _, rfl⟩
      | sl b o len cap z es vs hlen hcap hz hc hm hr =>
        simp at hlen
        subst hlen
        exact ⟨_, _, rfl⟩
    obtain ⟨ad, cap, rfl⟩ := hv'
    refine (rising_empty ad cap w).mono fun e w' ⟨ad', c', he, hB⟩ => ?_
    subst he
    exact ⟨hB.size, hB.block, ⟨hB.os, hB.tape, hB.output⟩, .slA _ _⟩
  · rename_i es hne
    split at hr
    · rename_i hlen
      simp only [Option.map_eq_some_iff] at hr
      obtain ⟨l, hl, rfl⟩ := hr
      obtain ⟨v, rfl, hv⟩ := args_one h1 h2
      rw [textsOf_get hl] at hv hlen hne
      rw [List.length_map] at hlen
      refine .inr ⟨run_enter Try.func21 (by kernel_rfl) hb _ w, ?_⟩
      have hl0 : l ≠ [] := fun e => hne (by rw [e]; rfl)
      refine (rising_full v l w hl0 hlen hv).mono fun e w' ⟨g, cap, he, g1, g2, g3, g4, g5, g6, g7, g8⟩ => ?_
      subst he
      refine ⟨g6, g7, g8, g, 0, cap, by rw [List.length_map], g1, g2, by rw [List.length_map]; exact g3, g4, ?_⟩
      exact ⟨g5.pos, g5.room, g5.wid, g5.cel, fun i e he j c hc => let ⟨v, k1, k2⟩ := g5.els i e he j c hc; ⟨v, k1, k2.mono fun b o u hb hu => ⟨.inl hb, hu⟩⟩⟩
    · cases hr
  · cases hr
end Go.Proofs.Ytghhloejmikdfaa
