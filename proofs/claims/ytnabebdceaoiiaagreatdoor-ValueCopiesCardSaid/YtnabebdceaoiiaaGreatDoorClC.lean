/- Columns closed, in the document: the whole, walked; the contract by which the evaluator takes it. -/
import Derived.Test.YtnabebdceaoiiaaGreatDoorClB
namespace Go.Proofs.YtnabebdceaoiiaaGreatDoor
open Go Go.Ev Go.RowKit
set_option linter.unusedVariables false
set_option linter.unusedSimpArgs false

theorem apr {n : Nat} {cols : List Int} {k : Nat} (h : badC n (cols.take k) = false) {c : Int} (hk : cols[k]? = some c) : badC n (cols.take (k + 1)) = (decide (c < 0) || decide (c ≥ (n : Int))) := by
  unfold badC at *
  rw [List.take_add_one, hk, Option.toList_some, List.any_append, h]; simp
theorem aps {n : Nat} {cols : List Int} {k : Nat} (h : badC n (cols.take k) = true) : badC n cols = true := by
  unfold badC at *
  rw [List.any_eq_true] at *
  obtain ⟨x, hx, h⟩ := h
  exact ⟨x, List.mem_of_mem_take hx, h⟩
theorem badC_at {n : Nat} {cols : List Int} (h : badC n cols = false) {k : Nat} {c : Int} (hk : cols[k]? = some c) : 0 ≤ c ∧ c < (n : Int) := by
  unfold badC at h
  rw [List.any_eq_false] at h
  have := h c (List.mem_of_getElem? hk)
  simp only [Bool.or_eq_true, decide_eq_true_eq, not_or] at this
  omega
theorem jd {a c : World} (h : a.grownBy c none) (row : Option Nat) : a.grownBy c row := ⟨h.os, h.tape, h.output, h.size, fun i hi _ => h.block i hi (by simp)⟩
theorem upM_neg (ns : List Cn) (m : Nat) (bs : List Bool) {q : Int} (h : q < 0) : upM ns m bs q = bs := by
  cases m with
  | zero => rfl
  | succ m => rw [upM, if_pos h]
structure UpLoop (base : Nat) (W0 W : World) (lv cv : Value) (ns : List Cn) (cols : List Int) (g n cap : Nat) (bs : List Bool) : Prop where
  fl : Fl base W g n cap bs
  cn : CnAt base W lv ns
  nm : NumAt base W cv cols
  gr : W0.grownBy W (some g)
theorem UpLoop.kept {base : Nat} {W0 W W' : World} {lv cv : Value} {ns : List Cn} {cols : List Int} {g n cap : Nat} {bs bs' : List Bool} (h : UpLoop base W0 W lv cv ns cols g n cap bs) (hb : base ≤ g) (hg : W.grownBy W' (some g)) (hf : Fl base W' g n cap bs') :
    UpLoop base W0 W' lv cv ns cols g n cap bs' := ⟨hf, h.cn.kept hg hb, h.nm.kept hg hb, h.gr.trans hg⟩

set_option maxRecDepth 100000 in
set_option maxHeartbeats 400000 in
theorem aav (ns : List Cn) (ok : ln ns.length 0 ns = true) (hn : ns.length ≤ 10000) (cols : List Int) (hc : cols.length ≤ 1000000) (W : World) (lv cv : Value) (hlv : CnAt W.heap.size W lv ns) (hcv : NumAt W.heap.size W cv cols) :
    Calls Tryz.prog 19 #[lv, cv] W fun e W' => W.grownBy W' none ∧ (badC ns.length cols = true → e = .returned (.tuple #[.slice none 0 0, .int .i64 1])) ∧
      (badC ns.length cols = false → ∃ g cap, e = .returned (.tuple #[.slice (some ⟨g, 0, none⟩) ns.length cap, .int .i64 0]) ∧ Fl W.heap.size W' g ns.length cap (fa ns (List.replicate ns.length false) cols)) := by
  have hcn : Aside (CnAt W.heap.size W lv ns) := hlv
  have hnm : Aside (NumAt W.heap.size W cv cols) := hcv
  obtain ⟨la, lc, rfl, hl⟩ := hlv
  obtain ⟨ca, cc, rfl, hcc⟩ := hcv
  replace hl : Aside _ := hl
  replace hcc : Aside _ := hcc
  obtain ⟨iB, hiB, hzB0, hzB1, hzB2⟩ := info_parts (P := Tryz.prog) (e := TQ) (z := .bool false) (size := 1) (bytes := 1) (by kernel_rfl)
  obtain ⟨w1, hmk, hrow, hgr⟩ := run_make_full (P := Tryz.prog) W W.heap.size 41 TQ iB (.bool false) 1 rfl hiB hzB0 hzB1 .i64 .i64 ns.length (by rw [hzB2]; omega) (by unfold maxLen; omega) (Nat.le_refl _)
  have hF0 : Fl W.heap.size w1 W.heap.size ns.length ns.length (List.replicate ns.length false) := by
    unfold Fl
    rw [List.map_replicate]
    rw [Nat.mul_one, show (Value.bool false).cells = #[.bool false] from rfl, toList_madeCells_one] at hrow
    exact hrow
  have L0 : Aside (UpLoop W.heap.size W w1 (.slice la ns.length lc) (.slice ca cols.length cc) ns cols W.heap.size ns.length ns.length (List.replicate ns.length false)) :=
    ⟨hF0, hcn.out.kept (jd hgr _) (Nat.le_refl _), hnm.out.kept (jd hgr _) (Nat.le_refl _), jd hgr _⟩
  clear hrow hF0
  go_enter Tryz.func19, Tryz.ntmps19
  go_wp2
  go_loop [7] (fun i => ∃ k : Nat, k ≤ cols.length ∧ i = .int .i64 k ∧ badC ns.length (cols.take k) = false) (fun i => cols.length - (intOf i).toNat)
  case atStart => exact ⟨0, Nat.zero_le _, rfl, rfl⟩
  case round =>
    obtain ⟨k, hk, rfl, hgood⟩ := hrel
    by_cases hlt : k < cols.length
    · obtain ⟨y, hy⟩ : ∃ y, cols[k]? = some y := ⟨_, List.getElem?_eq_getElem hlt⟩
      obtain ⟨kb, ko, rfl, hkb, hkc⟩ := L0.out.nm.out2 hy
      have hbt := apr hgood hy
      by_cases h1 : y < 0
      · have hbad : badC ns.length cols = true := aps (by rw [hbt, decide_eq_true h1]; rfl)
        replace hy : Aside _ := hy
        replace hbt : Aside _ := hbt
        replace hbad : Aside _ := hbad
        go_wp2
        go_ret2
        exact ⟨hgr, fun _ => rfl, fun h => by rw [hbad.out] at h; cases h⟩
      · by_cases h2 : y ≥ (ns.length : Int)
        · have hbad : badC ns.length cols = true := aps (by rw [hbt, decide_eq_true h2, Bool.or_true])
          replace hy : Aside _ := hy
          replace hbt : Aside _ := hbt
          replace hbad : Aside _ := hbad
          go_wp2
          go_ret2
          exact ⟨hgr, fun _ => rfl, fun h => by rw [hbad.out] at h; cases h⟩
        · have hgood' : badC ns.length (cols.take (k + 1)) = false := by rw [hbt, decide_eq_false h1, decide_eq_false h2]; rfl
          replace hy : Aside _ := hy
          replace hbt : Aside _ := hbt
          go_wp2
          go_round
          case rel => exact ⟨k + 1, by omega, by go_num, hgood'⟩
          case measure => simp [intOf]; omega
    · have e : k = cols.length := by omega
      subst e
      rw [List.take_length] at hgood
      replace hgood : Aside _ := hgood
      replace hgr : Aside _ := hgr
      have hg0 : W.heap.size ≤ W.heap.size := Nat.le_refl _
      go_wp2
      go_loopw [8] (fun i wl => ∃ k : Nat, k ≤ cols.length ∧ i = .int .i64 k ∧ Aside (UpLoop W.heap.size W wl (.slice la ns.length lc) (.slice ca cols.length cc) ns cols W.heap.size ns.length ns.length (fa ns (List.replicate ns.length false) (cols.take k))))
        (fun i _ => cols.length - (intOf i).toNat)
      case atStart => exact ⟨0, Nat.zero_le _, rfl, L0⟩
      case round =>
        obtain ⟨k, hk, rfl, L⟩ := hrel
        by_cases hlt : k < cols.length
        · obtain ⟨y, hy⟩ : ∃ y, cols[k]? = some y := ⟨_, List.getElem?_eq_getElem hlt⟩
          obtain ⟨y0, y1⟩ := badC_at hgood.out hy
          obtain ⟨j, rfl⟩ : ∃ j : Nat, y = (j : Int) := ⟨y.toNat, by omega⟩
          have hj : j < ns.length := by omega
          obtain ⟨kb, ko, rfl, hkb, hkc⟩ := L.out.nm.out2 hy
          have ih := mq ns ok ns.length W.heap.size wr _ W.heap.size ns.length j _ L.out.cn hg0 L.out.fl hj (by omega)
          replace ih : Aside _ := ih
          replace hy : Aside _ := hy
          go_wp2_with (first
            | (go_at_call 48; go_must (
               refine Calls.mono (Aside.out ih) ?_; rintro e2 w2 ⟨rfl, fl2, gr2⟩
               have L2 : Aside (UpLoop W.heap.size W w2 (.slice la ns.length lc) (.slice (some (ad3 kb ko)) cols.length cc) ns cols W.heap.size ns.length ns.length (allM ns ns.length (fa ns (List.replicate ns.length false) (cols.take k)) j)) := L.out.kept hg0 gr2 fl2
               have hkc2 : w2.cell? (ad3 kb (ko + k)) = some (.int .i64 (j : Nat)) := gr2.cell hkc (by show some kb ≠ some W.heap.size; intro e; cases e; omega)
               clear fl2 gr2 ih))
            | go_in)
          obtain ⟨T, hT⟩ : ∃ T, upM ns (j + 1) (allM ns ns.length (fa ns (List.replicate ns.length false) (cols.take k)) j) (j : Int) = T := ⟨_, rfl⟩
          have hT2 : T = fa ns (List.replicate ns.length false) (cols.take (k + 1)) := by
            rw [← hT]
            have : ∀ (l : List Int) (bs : List Bool) (c : Int), fa ns bs (l ++ [c]) = upM ns (c.toNat + 1) (allM ns ns.length (fa ns bs l) c.toNat) c := by
              intro l
              induction l with
              | nil => intro bs c; rfl
              | cons d l ih => intro bs c; rw [List.cons_append, fa, fa, ih]
            rw [List.take_add_one, hy.out, Option.toList_some, this]; rfl
          replace hT2 : Aside _ := hT2
          replace hT : Aside _ := hT
          clear hkc
          go_loopw [9] (fun i wl => ∃ (m : Nat) (q : Int) (bs : List Bool), i = .int .i64 q ∧ -1 ≤ q ∧ q < (ns.length : Int) ∧ q < (m : Int) ∧ upM ns m bs q = T ∧ Aside (UpLoop W.heap.size W wl (.slice la ns.length lc) (.slice (some (ad3 kb ko)) cols.length cc) ns cols W.heap.size ns.length ns.length bs))
            (fun i _ => (intOf i + 1).toNat)
          case atStart => exact ⟨j + 1, j, _, rfl, by omega, by omega, by omega, hT, L2⟩
          case round =>
            obtain ⟨m, q, bs, rfl, q1, q2, q3, q4, L3⟩ := hrel
            by_cases hq : q < 0
            · rw [upM_neg ns m bs hq] at q4
              subst q4
              have L4 : Aside (UpLoop W.heap.size W wr (.slice la ns.length lc) (.slice (some (ad3 kb ko)) cols.length cc) ns cols W.heap.size ns.length ns.length (fa ns (List.replicate ns.length false) (cols.take (k + 1)))) := by rw [← hT2.out]; exact L3
              go_wp2
              go_roundw
              case rel => exact ⟨k + 1, by omega, by go_num, L4⟩
              case measure => simp [intOf]; omega
            · obtain ⟨r, rfl⟩ : ∃ r : Nat, q = (r : Int) := ⟨q.toNat, by omega⟩
              obtain ⟨m, rfl⟩ : ∃ m', m = m' + 1 := ⟨m - 1, by omega⟩
              have hr : r < ns.length := by omega
              obtain ⟨x, hx⟩ : ∃ x, ns[r]? = some x := ⟨_, List.getElem?_eq_getElem hr⟩
              obtain ⟨b, o, rfl, hbb, hkd, hpr⟩ := L3.out.cn.out2 hx
              obtain ⟨_, hp1, hp2, _⟩ := lm ok hx
              have hne : ∀ o, some (ad3 b o).block ≠ some W.heap.size := fun o => by show some b ≠ some W.heap.size; intro e; cases e; omega
              rw [upM, if_neg hq, Int.toNat_natCast, hx] at q4
              simp only at q4
              by_cases h12 : x.kind = 12
              · have e12 : (x.kind != 12) = false := by rw [h12]; rfl
                rw [e12, if_neg (by decide)] at q4
                obtain ⟨u0, hu0⟩ := L3.out.fl.cell hr
                have hf0 := L3.out.fl.froz r
                obtain ⟨hset, hgs⟩ := L3.out.fl.set (p := r) true
                have L4 : Aside (UpLoop W.heap.size W (wr.setCell ⟨W.heap.size, r, none⟩ (.bool true)) (.slice (some (ad3 b o)) ns.length lc) (.slice (some (ad3 kb ko)) cols.length cc) ns cols W.heap.size ns.length ns.length (bs.set r true)) := L3.out.kept hg0 hgs hset
                have hpr2 := hgs.cell hpr (hne _)
                rw [h12] at hkd
                replace hx : Aside _ := hx
                replace q4 : Aside _ := q4
                replace hset : Aside _ := hset
                clear hgs
                go_wp2
                go_roundw
                case rel => exact ⟨m, x.par, bs.set r true, rfl, hp2, by omega, by omega, q4, L4⟩
                case measure => simp [intOf]; omega
              · have e12 : (x.kind != 12) = true := by simpa using h12
                rw [e12, if_pos rfl] at q4
                have ih := mq ns ok ns.length W.heap.size wr _ W.heap.size ns.length r bs L3.out.cn hg0 L3.out.fl hr (by omega)
                replace ih : Aside _ := ih
                replace hx : Aside _ := hx
                replace q4 : Aside _ := q4
                go_wp2_with (first
                  | (go_at_call 48; go_must (
                     refine Calls.mono (Aside.out ih) ?_; rintro e2 w2 ⟨rfl, fl2, gr2⟩
                     obtain ⟨u0, hu0⟩ := fl2.cell hr
                     have hf0 := fl2.froz r
                     obtain ⟨hset, hgs⟩ := fl2.set (p := r) true
                     have L4 : Aside (UpLoop W.heap.size W (w2.setCell ⟨W.heap.size, r, none⟩ (.bool true)) (.slice (some (ad3 b o)) ns.length lc) (.slice (some (ad3 kb ko)) cols.length cc) ns cols W.heap.size ns.length ns.length ((allM ns ns.length bs r).set r true)) := L3.out.kept hg0 (gr2.trans hgs) hset
                     have hpr2 := hgs.cell (gr2.cell hpr (hne _)) (hne _)
                     replace hset : Aside _ := hset
                     clear hgs fl2 gr2 ih))
                  | go_in)
                go_roundw
                case rel => exact ⟨m, x.par, _, rfl, hp2, by omega, by omega, q4, L4⟩
                case measure => simp [intOf]; omega
        · have e : k = cols.length := by omega
          subst e
          have L := L.out
          have hflE := L.fl
          rw [List.take_length] at hflE
          replace hflE : Aside _ := hflE
          have hgE : Aside (W.grownBy wr none) := ⟨L.gr.os, L.gr.tape, L.gr.output, L.gr.size, fun i hi _ => L.gr.block i hi (by intro e; cases e; omega)⟩
          clear L
          go_wp2
          go_ret2
          exact ⟨hgE, fun h => (by rw [hgood.out] at h; cases h), fun _ => ⟨_, _, rfl, hflE⟩⟩
end Go.Proofs.YtnabebdceaoiiaaGreatDoor
