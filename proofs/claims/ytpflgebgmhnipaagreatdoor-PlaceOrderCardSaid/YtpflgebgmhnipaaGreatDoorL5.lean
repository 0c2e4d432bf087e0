/- The evaluator of Go code and its proofs, part 5. Own work. -/
import Derived.Test.YtpflgebgmhnipaaGreatDoorL4
import Derived.Laws.IdiomStrings
set_option linter.unusedVariables false
set_option linter.unusedSimpArgs false
set_option linter.unusedSectionVars false
/-! EvU -/
/- Stores and copies. Own work. -/
namespace Go.Ev
open Go

section
variable {P : Program} {cfg : Cfg} {x : Cx} {N dep : Nat} {s : Get} {a : Act} {w : World}

theorem run_storeAt {o : Oper} {t : TypeId} {A X : Operand} (ho : o.op = .store t A X) {b o' : Nat} (hA : a.eval A = .pointer (some (ad3 b o'))) {v : Value} (hX : a.eval X = v) {n : Nat} (hn : sizeD P t = some n) (hsz : v.cells.size = n)
    (hc : ∀ j, j < n → (w.cell? ⟨b, o' + j, none⟩).isSome = true) (hf : ∀ j, j < n → w.frozen? ⟨b, o' + j, none⟩ = false) (h1 : ∀ (j : Nat) u, v.cells[j]? = some u → u.oneCell' = true) :
    (execOp a.eval o).run P w = .ok .skip (w.setCells b o' v.cells.toList) := by
  have hl : v.cells.toList.length = n := by simpa using hsz
  have hst := run_storeCells_cells (P := P) b o' v.cells.toList 0 w (by rw [hl]; simpa using hc) (by rw [hl]; simpa using hf) (fun u hu => by
    obtain ⟨j, hj⟩ := List.getElem?_of_mem hu
    exact h1 j u (by simpa using hj))
  simp only [Nat.add_zero] at hst
  simp only [execOp, ho, Instr.storeAt, Instr.sureAddr, hA, hX, Sem.run_bind, Sem.run_pure, Result.andThen_ok, storeVar, run_sizeOfD hn, hsz, ne_eq, not_true_eq_false, if_false]
  rw [hst]
  rfl

theorem alive_spec : ∀ (n : Nat) (d k off : Nat), alive s d k off n = true → ∀ j, j < n → (s (.cell ⟨d, k, off + j⟩)).isSome = true
  | 0, _, _, _, _, j, h => by omega
  | n + 1, d, k, off, h, j, hj => by
    simp only [alive, Bool.and_eq_true] at h
    cases j with
    | zero => exact h.1
    | succ j =>
      have := alive_spec n d k (off + 1) h.2 j (by omega)
      rw [show off + (j + 1) = off + 1 + j by omega]
      exact this

/-- cells of a box, data stored one behind the other -/
theorem Rel.setBoxes {d k : Nat} : ∀ (vs : List Value) (cs : List D) (off : Nat) (s : Get) (w : World) (_ : Rel cfg x N s a w), vs.length = cs.length → (∀ j, j < cs.length → (s (.cell ⟨d, k, off + j⟩)).isSome = true) →
    (∀ (j : Nat) v c, vs[j]? = some v → cs[j]? = some c → Rd (freeB x) w v c) → x.ow (x.ad d k) = some (.box d k) →
    Rel cfg x N (updG s (cells0 d k off (cs.map .d))) a (w.setCells (x.ad d k) off vs)
  | [], [], off, s, w, R, _, _, _, _ => R
  | v :: vs, c :: cs, off, s, w, R, hl, hal, h, hb => by
    obtain ⟨y0, hy0⟩ := Option.isSome_iff_exists.1 (hal 0 (by simp))
    have R1 := R.setBox (c := ⟨d, k, off⟩) (by simpa using hy0) (v := v) (y := .d c) rfl (l := none) (.d _ _ _ (h 0 v c rfl rfl))
    have hw := onlyB_setCell w (x.ad d k) off v
    refine Rel.setBoxes vs cs (off + 1) _ _ R1 (by simpa using hl) (fun j hj => ?_) (fun j v' c' h1 h2 => ?_) hb
    · show (if _ then _ else _ : Option V).isSome
      split
      · rfl
      · have := hal (j + 1) (by simp; omega)
        rw [show off + 1 + j = off + (j + 1) by omega]
        exact this
    · refine (h (j + 1) v' c' (by simpa using h1) (by simpa using h2)).mono (fun b o u g1 g2 => ⟨g1, ?_⟩)
      show (w.setCell (ad3 (x.ad d k) off) v).cell? (ad3 b o) = some u
      rw [hw.cell (fun e => by rw [freeB, e, hb] at g1; cases g1)]
      exact g2
  | [], _ :: _, _, _, _, _, hl, _, _, _ => by simp at hl
  | _ :: _, [], _, _, _, _, hl, _, _, _ => by simp at hl

theorem Fr.setBoxes {d k : Nat} (hb : x.ow (x.ad d k) = some (.box d k)) (o : Nat) (vs : List Value) : Fr dep x x w (w.setCells (x.ad d k) o vs) :=
  ⟨by rw [size_setCells]; exact Nat.le_refl _, fun b' _ h => ⟨heap_setCells_ne _ _ _ _ (fun e => by rw [e, hb] at h; simp at h), rfl⟩, fun _ _ _ => rfl, io_setCells _ _ _ _, (onlyB_setCells _ _ _ _).room, rfl⟩

theorem goes_skip {s' : Get} {o : Oper} {x' : Cx} {w' : World} (hd : o.dst = none) (hrun : (execOp a.eval o).run P w = .ok .skip w') (R : Rel cfg x' N s' a w') (hF : Fr dep x x' w w') : Goes P cfg x N dep s' a w o :=
  ⟨undef, w', x', .inr ⟨hrun, rfl⟩, by rw [hd]; exact R, hF⟩

/-- an element of the call's own array with some cells turned -/
theorem setAt_cells {e e' : D} {off : Nat} {cs : List D} (h : e.setAt off cs = some e') (hc : ∀ c ∈ cs, c.isCell = true) (hne : cs ≠ []) (he : ∀ c ∈ e.cells, c.isCell = true) :
    off + cs.length ≤ e.cells.length ∧ e'.cells.length = e.cells.length ∧ ∀ m, e'.cells[m]? = if off ≤ m ∧ m < off + cs.length then cs[m - off]? else e.cells[m]? := by
  unfold D.setAt at h
  split at h
  · rename_i hb
    split at h
    · rename_i es
      cases h
      obtain ⟨g1, g2⟩ := setCells_get cs es off hb
      exact ⟨hb, g1, g2⟩
    · rename_i hna
      have hcells : e.cells = [e] := by cases e <;> first | rfl | exact absurd rfl (hna _)
      rw [hcells] at hb
      simp at hb
      split at h
      · exact absurd rfl hne
      · rename_i c r
        split at h
        · cases h
          simp at hb
          have hr : r = [] := by apply List.eq_nil_of_length_eq_zero; omega
          have ho : off = 0 := by omega
          subst hr; subst ho
          have hec : ∀ d : D, d.isCell = true → d.cells = [d] := fun d h => by cases d <;> first | rfl | simp [D.isCell] at h
          have := hec e' (hc e' (by simp))
          rw [this, hcells]
          refine ⟨by simp, rfl, fun m => ?_⟩
          cases m with
          | zero => simp
          | succ m => simp
        · cases h
  · cases h

theorem sim_store (R : Rel cfg x N s a w) {o : Oper} {t : TypeId} {A X : Operand} (ho : o.op = .store t A X) (hd : o.dst = none) {n : Nat} (hn : sizeD P t = some n) {p q : IOpd} (hA : cOpd A = some p) (hX : cOpd X = some q) {ya yx : V} (hya : val cfg s p = some ya) (hyx : val cfg s q = some yx)
    {u : List (Loc × V)} (hu : evStore s n ya q yx = some u) : Goes P cfg x N dep (updG s u) a w o := by
  obtain ⟨la, hra, _⟩ := val_rd R hA hya
  obtain ⟨lx, hrx, hlx⟩ := val_rd R hX hyx
  generalize hva : a.eval A = va at hra
  unfold evStore at hu
  split at hu
  · -- a box
    rename_i d k off
    split at hu
    · rename_i hal
      have hsp := alive_spec n d k off hal
      cases hra with
      | ref _ _ _ _ h00 =>
      have hbx : ∀ j, j < n → x.ow (x.ad d k) = some (.box d k) ∧ w.frozen? (ad3 (x.ad d k) (off + j)) = false ∧ (w.cell? (ad3 (x.ad d k) (off + j))).isSome = true := fun j hj => by
        obtain ⟨y0, hy0⟩ := Option.isSome_iff_exists.1 (hsp j hj)
        obtain ⟨q1, q2, q3⟩ := R.box _ _ hy0
        obtain ⟨u0, hu0, _⟩ := R.locs _ _ hy0
        refine ⟨q1, q3, ?_⟩
        have : w.cell? (ad3 (x.ad d k) (off + j)) = some u0 := hu0
        rw [this]; rfl
      have hrun : ∀ v, a.eval X = v → v.cells.size = n → (∀ (j : Nat) u, v.cells[j]? = some u → u.oneCell' = true) → (execOp a.eval o).run P w = .ok .skip (w.setCells (x.ad d k) off v.cells.toList) := fun v e h1 h2 =>
        run_storeAt ho hva e hn h1 (fun j hj => (hbx j hj).2.2) (fun j hj => (hbx j hj).2.1) h2
      have one : ∀ v, a.eval X = v → v.oneCell' = true → n = 1 → (execOp a.eval o).run P w = .ok .skip (w.setCell (ad3 (x.ad d k) off) v) := fun v e h1 h2 => by
        have hvc : v.cells = #[v] := by cases v <;> first | rfl | simp [Value.oneCell'] at h1
        have := hrun v e (by rw [hvc]; simp [h2]) (fun j u hu => by rw [hvc] at hu; cases j with | zero => simp at hu; subst hu; exact h1 | succ j => simp at hu)
        rw [hvc] at this
        exact this
      have hown : ∀ l0 nw z es0 es b o' cap, n = 1 → s l0 = some (.own nw z es0) → x.ow b = some (.at l0) → Arr (freeB x) w b o' cap z es → es.length ≤ cap → a.eval X = .slice (some (ad3 b o')) es.length cap →
          (if Loc.cell ⟨d, k, off⟩ = l0 then some [(l0, V.own true z es)] else some [(.cell ⟨d, k, off⟩, V.own true z es), (l0, .junk)]) = some u → Goes P cfg x N dep (updG s u) a w o := by
        intro l0 nw z es0 es b o' cap h1 h2 h3 h4 h5 h6 h7
        subst h1
        obtain ⟨y0, hy0⟩ := Option.isSome_iff_exists.1 (hsp 0 (by omega))
        have hy0' : s (.cell ⟨d, k, off⟩) = some y0 := hy0
        have hb1 := (hbx 0 (by omega)).1
        have R1 := R.setBox (c := ⟨d, k, off⟩) hy0' (v := .slice (some (ad3 b o')) es.length cap) (y := .junk) rfl (l := none) (.junk _ _)
        have hw := onlyB_setCell w (x.ad d k) off (.slice (some (ad3 b o')) es.length cap)
        have hbne : b ≠ x.ad d k := fun e => by rw [e, hb1] at h3; cases h3
        have hA' : Arr (freeB x) (w.setCell (ad3 (x.ad d k) off) (.slice (some (ad3 b o')) es.length cap)) b o' cap z es := by
          refine h4.mono (fun b2 o2 u g1 g2 => ⟨g1, ?_⟩) (fun o2 u g => by rw [hw.cell hbne]; exact g) (fun o2 u _ g => by rw [hw.frozen hbne]; exact g)
          rw [hw.cell (fun e => by rw [freeB, e, hb1] at g1; cases g1)]; exact g2
        have hconc : conc x a (w.setCell (ad3 (x.ad d k) off) (.slice (some (ad3 b o')) es.length cap)) (.cell ⟨d, k, off⟩) = some (.slice (some (ad3 b o')) es.length cap) := by
          obtain ⟨u0, hu0, _⟩ := R.locs _ _ hy0'
          exact World.cell?_setCell_same _ _ _ hu0
        have hr := one _ h6 rfl rfl
        have hF := Fr.setBox (dep := dep) (w := w) hb1 off (.slice (some (ad3 b o')) es.length cap)
        split at h7
        · rename_i e
          cases h7
          subst e
          have R2 := R1.claim (l1 := .cell ⟨d, k, off⟩) (y1 := .junk) (by simp [updG_cons]) h3 hconc hA' rfl h5
          refine goes_skip hd hr (R2.congr (fun l => ?_)) hF
          simp only [updG_cons, updG_nil]; split <;> rfl
        · rename_i e
          cases h7
          have R2 := R1.reown (l0 := l0) (l1 := .cell ⟨d, k, off⟩) (fun e' => e e'.symm) (nw := nw) (z := z) (es := es0) (y1 := .junk) (by rw [updG_one, if_neg (fun e' => e e'.symm)]; exact h2) (by simp [updG_cons]) h3 hconc hA' rfl h5
          refine goes_skip hd hr (R2.congr (fun l => ?_)) (hF.trans (Fr.give h3 _))
          simp only [updG_cons, updG_nil]
          by_cases e1 : l = l0
          · simp [e1]
          · by_cases e2 : l = .cell ⟨d, k, off⟩ <;> simp [e1, e2]
      split at hu
      · rename_i j nw z es
        split at hu
        · rename_i h1
          obtain ⟨hl1, rfl⟩ := hlx j rfl
          have he : s (.slot j) = some (.own nw z es) := hyx
          obtain ⟨b, o', cap, q1, q2, q3, q4⟩ := R.own_at he
          exact hown _ nw z es es b o' cap h1 he q2 q4 q3 (by simpa [conc, Act.eval] using q1) (by rw [if_neg (by simp)]; exact hu)
        · cases hu
      · rename_i l o2 m
        split at hu
        · rename_i z es hs0
          split at hu
          · rename_i hq
            obtain ⟨rfl, rfl, h1⟩ := hq
            obtain ⟨b, o', cap', q1, q2, q3, q4, q5⟩ := R.bor_at hrx hs0
            simp only [List.drop_zero, List.take_length] at q5
            exact hown _ false z es es b o' cap' h1 hs0 q2 q5 q4 q1 hu
          · cases hu
        · cases hu
      · rename_i y
        split at hu
        · rename_i hq
          obtain ⟨h1, h2⟩ := hq
          cases hu
          obtain ⟨c1, c2, c3⟩ := hrx.d_inv.cells h2
          by_cases hn0 : n = 0
          · subst hn0
            have e1 : y.cells = [] := List.eq_nil_of_length_eq_zero h1
            have e2 : (a.eval X).cells.toList = [] := List.eq_nil_of_length_eq_zero (by simpa [c1] using h1)
            have hr := hrun _ rfl (by omega) (fun j u hu => by have := (Array.getElem?_eq_some_iff.1 hu).1; omega)
            rw [e2] at hr
            rw [e1]
            exact goes_skip hd hr R (Fr.refl _ _ _)
          · have hb1 := (hbx 0 (by omega)).1
            have hr := hrun _ rfl (by omega) (fun j u hu => by
              have hj : j < y.cells.length := by rw [← c1]; exact (Array.getElem?_eq_some_iff.1 hu).1
              exact (c3 j u _ hu (List.getElem?_eq_getElem hj)).2)
            refine goes_skip hd hr (Rel.setBoxes _ y.cells off s w R (by simpa using c1) (fun j hj => hsp j (by omega)) (fun j v c g1 g2 => (c3 j v c (by simpa using g1) g2).1) hb1) (Fr.setBoxes hb1 off _)
        · cases hu
      · rename_i hno hnb hnd
        split at hu
        · rename_i hq
          obtain ⟨h1, h2⟩ := hq
          cases hu
          subst h1
          obtain ⟨y0, hy0⟩ := Option.isSome_iff_exists.1 (hsp 0 (by omega))
          have hy0' : s (.cell ⟨d, k, off⟩) = some y0 := hy0
          have hn1 : yx.isOwn = false := by cases yx <;> first | rfl | simp [V.plainV] at h2
          have hone : (a.eval X).oneCell' = true := by
            generalize a.eval X = v at hrx
            cases hrx <;> first | rfl | (simp [V.plainV] at h2; done) | exact (hnd _ rfl).elim | exact (hnb _ rfl).elim | exact (hno _ rfl).elim
          exact goes_skip hd (one _ rfl hone rfl) (R.setBox (c := ⟨d, k, off⟩) hy0' hn1 hrx) (Fr.setBox (hbx 0 (by omega)).1 off _)
        · cases hu
    · cases hu
  · -- an element
    rename_i l i off
    split at hu
    · rename_i z es y hs0 hy
      split at hu
      · rename_i hq
        obtain ⟨h1, h2⟩ := hq
        simp only [Option.bind_eq_some_iff, Option.map_eq_some_iff] at hu
        obtain ⟨e, he, e', he', rfl⟩ := hu
        have hdat : dat cfg s q = some y := by simp [dat, hyx, hy]
        have hry := dat_rd R hX hdat
        obtain ⟨c1, c2, c3⟩ := hry.cells h2
        cases hra with
        | bref _ _ _ _ b o' h =>
        obtain ⟨o2, L, C, f1, f2⟩ := h _ _ hs0
        obtain ⟨b2, o3, cap, q1, q2, q3, q4⟩ := R.own_at hs0
        rw [f1] at q1
        cases q1
        have hcel := q4.cel e (List.mem_of_getElem? he)
        by_cases hn0 : y.cells = []
        · -- nothing to store
          have e2 : (a.eval X).cells.toList = [] := List.eq_nil_of_length_eq_zero (by simpa [hn0] using c1)
          have hn00 : n = 0 := by rw [← h1, hn0]; rfl
          subst hn00
          have hr := run_storeAt (w := w) (P := P) ho hva rfl hn (by simpa [hn0] using c1) (by intro j hj; omega) (by intro j hj; omega) (fun j u hu => by have := (Array.getElem?_eq_some_iff.1 hu).1; simp [hn0] at c1; simp [c1] at this)
          rw [e2] at hr
          have hee : e' = e := by
            rw [hn0] at he'
            unfold D.setAt at he'
            split at he'
            · split at he'
              · cases he'; rfl
              · cases he'; rfl
            · cases he'
          subst hee
          have hset : es.set i e' = es := by
            apply List.ext_getElem?
            intro m
            rw [List.getElem?_set]
            split
            · rename_i hm
              subst hm
              split
              · exact he.symm
              · rename_i hlt
                have := (List.getElem?_eq_some_iff.1 he).1
                exact absurd this hlt
            · rfl
          rw [hset]
          exact goes_skip hd hr (R.congr (fun l' => by rw [updG_one]; split <;> simp_all)) (Fr.refl _ _ _)
        · obtain ⟨g1, g2, g3⟩ := setAt_cells he' c2 hn0 hcel
          have hi := (List.getElem?_eq_some_iff.1 he).1
          have hwid := q4.wid e (List.mem_of_getElem? he)
          have hlt : ∀ m, m < z → i * z + m < es.length * z := fun m hm => idx_lt hi hm
          have hle : es.length * z ≤ C * z := Nat.mul_le_mul_right z q3
          have hn1 : n ≤ z := by omega
          have hr := run_storeAt (w := w) (P := P) ho hva rfl hn (by omega) (fun j hj => by
              obtain ⟨⟨u, hu⟩, _⟩ := q4.room (i * z + (off + j)) (by have := hlt (off + j) (by omega); omega)
              rw [f2, show o2 + i * z + off + j = o2 + (i * z + (off + j)) by omega]
              have hu' : w.cell? ⟨b, o2 + (i * z + (off + j)), none⟩ = some u := hu
              rw [hu']; rfl) (fun j hj => by
              obtain ⟨_, hf⟩ := q4.room (i * z + (off + j)) (by have := hlt (off + j) (by omega); omega)
              rw [f2, show o2 + i * z + off + j = o2 + (i * z + (off + j)) by omega]
              exact hf) (fun j u hu => by
              have hj : j < y.cells.length := by rw [← c1]; exact (Array.getElem?_eq_some_iff.1 hu).1
              exact (c3 j u _ hu (List.getElem?_eq_getElem hj)).2)
          have hw := onlyB_setCells w b o' (a.eval X).cells.toList
          have hvl : (a.eval X).cells.toList.length = n := by simpa [h1] using c1
          have hfree : ∀ b2 o4 u, freeB x b2 → w.cell? (ad3 b2 o4) = some u → freeB x b2 ∧ (w.setCells b o' (a.eval X).cells.toList).cell? (ad3 b2 o4) = some u := fun b2 o4 u p1 p2 =>
            ⟨p1, by rw [hw.cell (fun e => by rw [freeB, e, q2] at p1; cases p1)]; exact p2⟩
          have hA2 : Arr (freeB x) (w.setCells b o' (a.eval X).cells.toList) b o2 C z (es.set i e') := by
            refine ⟨q4.pos, fun j hj => ?_, fun d hd' => ?_, fun d hd' => ?_, fun i2 d hd' j c hj => ?_⟩
            · obtain ⟨⟨u, hu⟩, hf⟩ := q4.room j hj
              exact ⟨hw.keep _ _ hu, by rw [hw.froz _ ⟨u, hu⟩]; exact hf⟩
            · rcases List.mem_or_eq_of_mem_set hd' with h | rfl
              · exact q4.wid d h
              · omega
            · rcases List.mem_or_eq_of_mem_set hd' with h | rfl
              · exact q4.cel d h
              · intro c hc
                obtain ⟨m, hm⟩ := List.getElem?_of_mem hc
                rw [g3] at hm
                split at hm
                · exact c2 c (List.mem_of_getElem? hm)
                · exact hcel c (List.mem_of_getElem? hm)
            · by_cases ei : i2 = i
              · subst ei
                rw [List.getElem?_set_self hi] at hd'
                cases hd'
                rw [g3] at hj
                split at hj
                · rename_i hin
                  have hlt2 : j - off < (a.eval X).cells.toList.length := by rw [hvl]; omega
                  have hget := World.cell?_setCells_in b (a.eval X).cells.toList o' w (fun m hm => by
                    obtain ⟨⟨u, hu⟩, _⟩ := q4.room (i2 * z + (off + m)) (by have := hlt (off + m) (by omega); omega)
                    rw [f2, show o2 + i2 * z + off + m = o2 + (i2 * z + (off + m)) by omega]
                    have hu' : w.cell? ⟨b, o2 + (i2 * z + (off + m)), none⟩ = some u := hu
                    rw [hu']; rfl) (j - off) hlt2
                  have hsz : j - off < (a.eval X).cells.size := by simpa using hlt2
                  refine ⟨(a.eval X).cells[j - off], ?_, (c3 (j - off) _ c (Array.getElem?_eq_getElem hsz) hj).1.mono hfree⟩
                  rw [show ad3 b (o2 + i2 * z + j) = ⟨b, o' + (j - off), none⟩ by simp only [ad3, f2]; congr 1; omega, hget]
                  simp
                · rename_i hout
                  obtain ⟨v, p1, p2⟩ := q4.els i2 e he j c hj
                  refine ⟨v, setCells_keep p1 (fun _ => ?_), p2.mono hfree⟩
                  rw [hvl, f2]
                  omega
              · rw [List.getElem?_set_ne (Ne.symm ei)] at hd'
                obtain ⟨v, p1, p2⟩ := q4.els i2 d hd' j c hj
                have hjz : j < z := by rw [← q4.wid d (List.mem_of_getElem? hd')]; exact (List.getElem?_eq_some_iff.1 hj).1
                refine ⟨v, setCells_keep p1 (fun _ => ?_), p2.mono hfree⟩
                rw [hvl, f2]
                rcases Nat.lt_or_gt_of_ne ei with h | h
                · have : (i2 + 1) * z ≤ i * z := Nat.mul_le_mul_right z h
                  rw [Nat.add_mul] at this; omega
                · have : (i + 1) * z ≤ i2 * z := Nat.mul_le_mul_right z h
                  rw [Nat.add_mul] at this; omega
          exact goes_skip hd hr (R.write hs0 f1 q2 hw hA2 (by simp) rfl q3) (Fr.write q2 hw)
      · cases hu
    · cases hu
  · cases hu

end
end Go.Ev

/-! EvV -/
/- copy, conversions between strings and bytes. Own work. -/
namespace Go.Ev
open Go

section
variable {P : Program} {cfg : Cfg} {x : Cx} {N dep : Nat} {s : Get} {a : Act} {w : World}

theorem run_copyD {dT sT ty elem : TypeId} {b o dLen dCap z n : Nat} {y : Value} {cs : List Value} (hu : P.underlying dT = some (.slice elem)) (hz : sizeD P elem = some z)
    (hlen : (Builtin.lenOf y).run P w = .ok n w) (hcs : (Builtin.firstCells z (min n dLen) y).run P w = .ok cs.toArray w)
    (hc : ∀ j, j < cs.length → (w.cell? ⟨b, o + j, none⟩).isSome = true) (hf : ∀ j, j < cs.length → w.frozen? ⟨b, o + j, none⟩ = false) (h1 : ∀ v ∈ cs, v.oneCell' = true) :
    (Builtin.copy_ #[dT, sT] ty #[.slice (some (ad3 b o)) dLen dCap, y]).run P w = .ok (goInt ((min n dLen : Nat) : Int)) (w.setCells b o cs) := by
  have hst := run_storeCells_cells (P := P) b o cs 0 w (by simpa using hc) (by simpa using hf) h1
  simp only [Nat.add_zero] at hst
  have hsz := run_sizeOfD (w := w) hz
  simp only [Builtin.copy_, List.getElem?_toArray, List.getElem?_cons_zero, List.getElem?_cons_succ, Sem.run_bind, run_underlying hu, Result.andThen_ok, hlen, hsz, Sem.run_pure]
  rw [show Nat.min n dLen = min n dLen from rfl, hcs]
  simp only [Result.andThen_ok, hst, Sem.run_bind, Sem.run_pure]

/-- elements written over an array, in place -/
theorem Arr.over {b o cap z off : Nat} {es ys : List D} (A : Arr (freeB x) w b o cap z es) (hb : x.ow b ≠ none) (hcap : es.length ≤ cap) (hoff : off + ys.length ≤ es.length) {news : List Value} (hn : news.length = ys.length * z) (hz : ∀ e ∈ ys, e.cells.length = z)
    (hs : ∀ (i : Nat) e, ys[i]? = some e → ∀ (j : Nat) c, e.cells[j]? = some c → c.isCell = true ∧ ∃ v, news[i * z + j]? = some v ∧ Rd (freeB x) w v c ∧ v.oneCell' = true) :
    Arr (freeB x) (w.setCells b (o + off * z) news) b o cap z (es.take off ++ ys ++ es.drop (off + ys.length)) := by
  have hmono : ∀ b' o' u, freeB x b' → w.cell? (ad3 b' o') = some u → freeB x b' ∧ (w.setCells b (o + off * z) news).cell? (ad3 b' o') = some u := fun b' o' u h1 h2 =>
    ⟨h1, setCells_keep h2 (fun e => absurd h1 (by rw [e]; exact hb))⟩
  have hle : (off + ys.length) * z ≤ es.length * z := Nat.mul_le_mul_right z hoff
  have hle2 : es.length * z ≤ cap * z := Nat.mul_le_mul_right z hcap
  rw [Nat.add_mul] at hle
  have hget : ∀ (i : Nat) e, (es.take off ++ ys ++ es.drop (off + ys.length))[i]? = some e → (off ≤ i ∧ i < off + ys.length ∧ ys[i - off]? = some e) ∨ ((i < off ∨ off + ys.length ≤ i) ∧ es[i]? = some e) := by
    intro i e he
    have ht : (es.take off).length = off := by simp; omega
    by_cases h1 : i < off
    · rw [List.append_assoc, List.getElem?_append_left (by omega), List.getElem?_take] at he
      rw [if_pos h1] at he
      exact .inr ⟨.inl h1, he⟩
    · by_cases h2 : i < off + ys.length
      · rw [List.append_assoc, List.getElem?_append_right (by omega), ht, List.getElem?_append_left (by omega)] at he
        exact .inl ⟨by omega, h2, he⟩
      · rw [List.getElem?_append_right (by simp; omega), List.getElem?_drop] at he
        refine .inr ⟨.inr (by omega), ?_⟩
        rw [← he]
        congr 1
        simp
        omega
  have hmem : ∀ e ∈ es.take off ++ ys ++ es.drop (off + ys.length), e ∈ es ∨ e ∈ ys := by
    intro e he
    simp only [List.mem_append] at he
    rcases he with (he | he) | he
    · exact .inl (List.mem_of_mem_take he)
    · exact .inr he
    · exact .inl (List.mem_of_mem_drop he)
  refine ⟨A.pos, fun j hj => ?_, fun e he => ?_, fun e he => ?_, fun i e he j c hj => ?_⟩
  · obtain ⟨⟨u, hu⟩, hf⟩ := A.room j hj
    exact ⟨keep_setCells b news _ w _ hu, by rw [World.frozen?_setCells]; exact hf⟩
  · rcases hmem e he with h | h
    · exact A.wid e h
    · exact hz e h
  · rcases hmem e he with h | h
    · exact A.cel e h
    · obtain ⟨i, hi⟩ := List.getElem?_of_mem h
      intro c hc
      obtain ⟨j, hj⟩ := List.getElem?_of_mem hc
      exact (hs i e hi j c hj).1
  · rcases hget i e he with ⟨h1, h2, h3⟩ | ⟨h1, h2⟩
    · obtain ⟨_, v, q1, q2, q3⟩ := hs _ e h3 j c hj
      refine ⟨v, ?_, q2.mono hmono⟩
      have hm : (i - off) * z + j < news.length := (List.getElem?_eq_some_iff.1 q1).1
      have := World.cell?_setCells_in b news (o + off * z) w (fun m hm' => by
        obtain ⟨⟨u, hu⟩, _⟩ := A.room (off * z + m) (by omega)
        rw [show o + off * z + m = o + (off * z + m) by omega]
        rw [hu]; rfl) _ hm
      have hi : i = off + (i - off) := by omega
      have e1 : o + i * z + j = o + off * z + ((i - off) * z + j) := by
        conv => lhs; rw [hi, Nat.add_mul]
        omega
      rw [show ad3 b (o + i * z + j) = ⟨b, o + off * z + ((i - off) * z + j), none⟩ by rw [e1], this, ← q1, List.getElem?_eq_getElem hm]
    · obtain ⟨v, q1, q2⟩ := A.els i e h2 j c hj
      have hjz : j < z := by rw [← A.wid e (List.mem_of_getElem? h2)]; exact (List.getElem?_eq_some_iff.1 hj).1
      refine ⟨v, setCells_keep q1 (fun _ => ?_), q2.mono hmono⟩
      rcases h1 with h1 | h1
      · have := idx_lt h1 hjz
        exact .inl (by omega)
      · have : (off + ys.length) * z ≤ i * z := Nat.mul_le_mul_right z h1
        rw [Nat.add_mul] at this
        exact .inr (by omega)

theorem copy_own (R : Rel cfg x N s a w) {o : Oper} {c : Call} (ho : o.op = .call c) (hb : c.callee = .builtin .copy) {k : Nat} (hd : o.dst = some k) (hk : k < N) {X Y : Operand} (hargs : c.args.toList = [X, Y]) {t u e : TypeId}
    (htys : c.argTypes.toList = [t, u]) (ht : P.underlying t = some (.slice e)) {z : Nat} (hz : sizeD P e = some z) {l0 : Loc} {es : List D} (h0 : s l0 = some (.own false z es)) {b o0 L C of cap off n : Nat} (hcv : conc x a w l0 = some (.slice (some (ad3 b o0)) L C))
    (how : x.ow b = some (.at l0)) (hA : Arr (freeB x) w b o0 C z es) (hL : es.length = L) (hC : L ≤ C) (hof : n = 0 ∨ of = o0 + off * z) (hn : off + n ≤ es.length) (hX : a.eval X = .slice (some (ad3 b of)) n cap) {q : IOpd} (hY : cOpd Y = some q) {yv : V} (hy : val cfg s q = some yv)
    {ys : List D} (hc : cont s yv = some ys) (hyz : allZ z ys = true) :
    Goes P cfg x N dep (updG s ((l0, .own false z (es.take off ++ ys.take n ++ es.drop (off + min n ys.length))) :: put1 o.dst (.d (.int .i64 (min n ys.length : Nat))))) a w o := by
  obtain ⟨news, S, hs, ad, cp, hYe, hnil, hcell⟩ := cont_src (P := P) R hY hy hc hyz
  have hci : ∃ i, c.args = #[X, Y] ∧ c.argTypes = #[t, u] ∧ i = 0 := ⟨0, by rw [← hargs], by rw [← htys], rfl⟩
  obtain ⟨_, hA1, hA2, _⟩ := hci
  have hYL := allZ_mem hyz
  have hcs : (Builtin.firstCells z (min ys.length n) (a.eval Y)).run P w = .ok (news.take (min ys.length n * z)).toArray w := by
    rw [hYe]
    cases ad with
    | none =>
      have := hnil rfl
      subst this
      have : news = [] := List.eq_nil_of_length_eq_zero (by simpa using S.num)
      subst this
      rw [run_firstCells_none]
      simp
    | some a0 =>
      refine run_firstCells_some (P := P) w z _ a0 _ cp _ ?_ (fun m v hm => hcell a0 rfl m v ?_)
      · rw [List.length_take, S.num]
        have : min ys.length n * z ≤ ys.length * z := Nat.mul_le_mul_right z (Nat.min_le_left _ _)
        omega
      · rw [List.getElem?_take] at hm
        split at hm
        · exact hm
        · cases hm
  have hlenY : (Builtin.lenOf (a.eval Y)).run P w = .ok ys.length w := S.len w
  have hnl : (news.take (min ys.length n * z)).length = min ys.length n * z := by
    rw [List.length_take, S.num]
    have : min ys.length n * z ≤ ys.length * z := Nat.mul_le_mul_right z (Nat.min_le_left _ _)
    omega
  have hyt : (ys.take n).length = min ys.length n := by simp [Nat.min_comm]
  have hle : (off + min ys.length n) * z ≤ C * z := Nat.mul_le_mul_right z (by omega)
  rw [Nat.add_mul] at hle
  have hof' : min ys.length n * z ≠ 0 → of = o0 + off * z := by
    intro h
    rcases hof with h1 | h1
    · subst h1; simp at h
    · exact h1
  have hrun : (execOp a.eval o).run P w = .ok (.value (goInt ((min ys.length n : Nat) : Int))) (w.setCells b of (news.take (min ys.length n * z))) := by
    refine run_call_blt ho hb ?_
    rw [hA1, hA2]
    simp only [builtin, List.map_toArray, List.map_cons, List.map_nil, Sem.run_bind, hX]
    rw [run_copyD ht hz hlenY hcs (fun j hj => ?_) (fun j hj => ?_) (fun v hv => S.one v (List.mem_of_mem_take hv))]
    · rfl
    · rw [hnl] at hj
      obtain ⟨⟨u, hu⟩, _⟩ := hA.room (off * z + j) (by omega)
      rw [hof' (by omega), show o0 + off * z + j = o0 + (off * z + j) by omega, hu]
      rfl
    · rw [hnl] at hj
      obtain ⟨_, hf⟩ := hA.room (off * z + j) (by omega)
      rw [hof' (by omega), show o0 + off * z + j = o0 + (off * z + j) by omega]
      exact hf
  have hsame : w.setCells b of (news.take (min ys.length n * z)) = w.setCells b (o0 + off * z) (news.take (min ys.length n * z)) := by
    by_cases h : min ys.length n * z = 0
    · rw [h]; simp [World.setCells]
    · rw [hof' h]
  rw [hsame] at hrun
  have hA' := hA.over (off := off) (ys := ys.take n) (by rw [how]; simp) (by omega) (by rw [hyt]; omega) (by rw [hyt]; exact hnl) (fun e he => hYL e (List.mem_of_mem_take he)) (fun i e he j c hj => by
    rw [List.getElem?_take] at he
    split at he
    · obtain ⟨h1, v, h2, h3⟩ := hs i e he j c hj
      refine ⟨h1, v, ?_, h3⟩
      have hjz : j < z := by rw [← hYL e (List.mem_of_getElem? he)]; exact (List.getElem?_eq_some_iff.1 hj).1
      have hi : i < min ys.length n := by have := (List.getElem?_eq_some_iff.1 he).1; omega
      have := idx_lt hi hjz
      rw [List.getElem?_take, if_pos this]
      exact h2
    · cases he)
  rw [hyt] at hA'
  have hw := onlyB_setCells w b (o0 + off * z) (news.take (min ys.length n * z))
  have R1 := R.write h0 hcv how hw hA' (by simp; omega) hL hC
  have hcomm : min n ys.length = min ys.length n := Nat.min_comm _ _
  rw [hcomm]
  refine ⟨goInt ((min ys.length n : Nat) : Int), _, x, .inl hrun, ?_, Fr.write how hw⟩
  rw [hd]
  exact R1.put hk rfl (l := none) (.d _ _ _ (by rw [show goInt ((min ys.length n : Nat) : Int) = .int .i64 ((min ys.length n : Nat) : Int) from rfl]; exact .int _ _))

theorem sim_copy (R : Rel cfg x N s a w) {o : Oper} {c : Call} (ho : o.op = .call c) (hb : c.callee = .builtin .copy) {k : Nat} (hd : o.dst = some k) (hk : k < N) {X Y : Operand} (hargs : c.args.toList = [X, Y]) {t u e : TypeId}
    (htys : c.argTypes.toList = [t, u]) (ht : P.underlying t = some (.slice e)) {z : Nat} (hz : sizeD P e = some z) {p q : IOpd} (hX : cOpd X = some p) (hY : cOpd Y = some q) {v yv : V} (hx : val cfg s p = some v) (hy : val cfg s q = some yv)
    {ys : List D} (hc : cont s yv = some ys) {r : List (Loc × V)} (hr : evCopy s o.dst z p v ys = some r) : Goes P cfg x N dep (updG s r) a w o := by
  unfold evCopy at hr
  split at hr
  · rename_i hyz
    obtain ⟨l0, hrd, hl0⟩ := val_rd R hX hx
    simp only at hr
    split at hr
    · rename_i j z' es
      split at hr
      · rename_i z2 es2 hs0
        split at hr
        · rename_i hq
          obtain ⟨rfl, hq2⟩ := hq
          cases hr
          obtain ⟨hl1, rfl⟩ := hl0 j rfl
          have he : s (.slot j) = some (.own false z' es) := hx
          rw [he] at hs0
          cases hs0
          obtain ⟨b, o', cap, q1, q2, q3, q4⟩ := R.own_at he
          exact copy_own R ho hb hd hk hargs htys ht hz he q1 q2 q4 rfl q3 (of := o') (off := 0) (.inr (by simp)) hq2 (by simpa [conc, Act.eval] using q1) hY hy hc hyz
        · cases hr
      · cases hr
    · rename_i l off n
      split at hr
      · rename_i z2 es2 hs0
        split at hr
        · rename_i hq
          obtain ⟨rfl, hq2⟩ := hq
          cases hr
          obtain ⟨b, o', cap, q1, q2, q3, q4⟩ := R.own_at hs0
          generalize hva : a.eval X = vx at hrd
          cases hrd with
          | bor _ _ _ _ b2 o2 cap2 hcap h =>
            obtain ⟨o3, L, C, g1, g2, g3, g4⟩ := h _ _ hs0
            rw [g1] at q1
            cases q1
            exact copy_own R ho hb hd hk hargs htys ht hz hs0 g1 q2 q4 rfl q3 (off := off) (by rcases g3 with g3 | g3 <;> omega) hq2 hva hY hy hc hyz
        · cases hr
      · cases hr
    · cases hr
  · cases hr

theorem bytesOf_get : ∀ {es : List D} {b : List UInt8}, bytesOf? es = some b → ∃ ns : List Int, es = ns.map (D.int .u8) ∧ b = ns.map fun n => UInt8.ofNat n.toNat
  | [], b, h => by cases h; exact ⟨[], rfl, rfl⟩
  | e :: es, b, h => by
    unfold bytesOf? at h
    split at h
    · rename_i c bs h1 h2
      cases h
      obtain ⟨ns, rfl, rfl⟩ := bytesOf_get h2
      unfold D.byte? at h1
      split at h1
      · rename_i n
        cases h1
        exact ⟨n :: ns, rfl, rfl⟩
      · cases h1
    · cases h

theorem foldl_push_ints : ∀ (ns : List Int) (r : ByteArray), ns.foldl (fun r n => r.push (UInt8.ofNat n.toNat)) r = ⟨r.data ++ (ns.map fun n => UInt8.ofNat n.toNat).toArray⟩
  | [], r => by simp
  | n :: ns, r => by
    rw [List.foldl_cons, foldl_push_ints ns]
    simp [ByteArray.push]

theorem rd_byte {F : Nat → Prop} (b : UInt8) : Rd F w (.int .u8 (b.toNat : Int)) (byteD b) := .int _ _

theorem execOp_convert {o : Oper} {sT dT : TypeId} {X : Operand} (ho : o.op = .convert sT dT X) {v : Value} {w' : World} (h : (convert sT dT (a.eval X)).run P w = .ok v w') : (execOp a.eval o).run P w = .ok (.value v) w' := by
  simp only [execOp, ho, Sem.run_bind, h, Result.andThen_ok, Sem.run_pure]

/-- the mark behind an array -/
theorem freeze_only {w : World} {b : Nat} (hn : NoFz w b) {c : Array Value} {e : TypeId} {fr : Nat × Nat} (hb : w.heap[b]? = some (.cells c e fr)) : OnlyB b w (w.freeze ⟨b, c.size, none⟩ 1) ∧ ∀ b' o, (w.freeze ⟨b, c.size, none⟩ 1).cell? (ad3 b' o) = w.cell? (ad3 b' o) := by
  obtain ⟨lo, hi⟩ := fr
  have hnf := hn c e lo hi hb
  have hheap : ∀ b', (w.freeze ⟨b, c.size, none⟩ 1).heap[b']? = if b = b' then some (.cells c e (if lo == hi then (c.size, c.size + 1) else (min lo c.size, max hi (c.size + 1)))) else w.heap[b']? := fun b' => by
    unfold World.freeze
    rw [if_neg (by decide)]
    simp only [Array.getElem?_modify]
    split
    · rename_i h; subst h; rw [hb]; rfl
    · rfl
  have hcell : ∀ b' o, (w.freeze ⟨b, c.size, none⟩ 1).cell? (ad3 b' o) = w.cell? (ad3 b' o) := fun b' o => by
    unfold World.cell?
    rw [hheap]
    by_cases h : b = b'
    · subst h; rw [if_pos rfl, hb]
    · rw [if_neg h]
  have hnew : NoFz (w.freeze ⟨b, c.size, none⟩ 1) b := fun c' e' p q h1 h2 => by
    rw [hheap, if_pos rfl] at h1
    by_cases he : lo = hi
    · subst he
      simp only [beq_self_eq_true, if_true, Option.some.injEq, Obj.cells.injEq, Prod.mk.injEq] at h1
      obtain ⟨rfl, _, rfl, _⟩ := h1
      exact Nat.le_refl _
    · have hl := hnf he
      rw [if_neg (by simpa using he)] at h1
      simp only [Option.some.injEq, Obj.cells.injEq, Prod.mk.injEq] at h1
      obtain ⟨rfl, _, rfl, _⟩ := h1
      omega
  have hunf : ∀ {w1 : World} {c1 e1 f1}, w1.heap[b]? = some (.cells c1 e1 f1) → NoFz w1 b → ∀ o u, w1.cell? (ad3 b o) = some u → w1.frozen? (ad3 b o) = false := by
    intro w1 c1 e1 f1 h1 h2 o u h3
    obtain ⟨p, q⟩ := f1
    have h4 := h2 _ _ _ _ h1
    unfold World.cell? at h3
    rw [h1] at h3
    have h5 : c1[o]? = some u := h3
    have h6 := (Array.getElem?_eq_some_iff.1 h5).1
    unfold World.frozen?
    rw [h1]
    simp only [Bool.and_eq_false_iff, decide_eq_false_iff_not]
    by_cases he : p = q
    · omega
    · have := h4 he; omega
  refine ⟨⟨?_, fun b' h => by rw [hheap, if_neg (Ne.symm h)], fun o ⟨u, hu⟩ => ?_, fun o u h => ⟨u, by rw [hcell]; exact h⟩, ?_, fun _ => hnew⟩, hcell⟩
  · unfold World.freeze
    rw [if_neg (by decide)]
    simp
  · rw [hunf hb hn o u hu]
    exact hunf (w1 := w.freeze ⟨b, c.size, none⟩ 1) (by rw [hheap, if_pos rfl]) hnew o u (by rw [hcell]; exact hu)
  · unfold World.freeze
    rw [if_neg (by decide)]
    exact ⟨rfl, rfl, rfl⟩

theorem sim_cvB (R : Rel cfg x N s a w) {o : Oper} {t e : TypeId} {j : Nat} (ho : o.op = .convert t t (.tmp j)) {k : Nat} (hd : o.dst = some k) (hk : k < N) (ht : P.underlying t = some (.slice e)) (he : P.underlying e = some (.int .u8))
    {nw : Bool} {z : Nat} {es : List D} (hs : s (.slot j) = some (.own nw z es)) (own : Bool) :
    Goes P cfg x N dep (updG s (put1 o.dst (if own then .own true z es else .d (.sl es)) ++ [(.slot j, .junk)])) a w o := by
  obtain ⟨b, of, cap, h1, how, hcap, A⟩ := R.own_at hs
  have hv : a.eval (.tmp j) = .slice (some (ad3 b of)) es.length cap := by simpa [conc, Act.eval] using h1
  have hmark : ∃ w', (markStringish (ad3 b of)).run P w = .ok () w' ∧ OnlyB b w w' ∧ ∀ b' o, w'.cell? (ad3 b' o) = w.cell? (ad3 b' o) := by
    unfold markStringish
    cases hsh : w.shape? b with
    | none =>
      refine ⟨w, by simp [hsh], ⟨rfl, fun _ _ => rfl, fun _ _ => rfl, fun _ u h => ⟨u, h⟩, .refl _, fun h => h⟩, fun _ _ => rfl⟩
    | some p =>
      obtain ⟨et, n⟩ := p
      have hsh' := hsh
      unfold World.shape? at hsh'
      split at hsh'
      · rename_i c el fr hb
        cases hsh'
        obtain ⟨g1, g2⟩ := freeze_only (R.nofz b (by rw [how]; exact .inr ⟨_, rfl⟩)) hb
        exact ⟨_, by simp [hsh], g1, g2⟩
      · cases hsh'
  obtain ⟨w', hr, hw, hcell⟩ := hmark
  have hrun : (execOp a.eval o).run P w = .ok (.value (.slice (some (ad3 b of)) es.length cap)) w' := by
    refine execOp_convert ho ?_
    rw [hv]
    simp only [convert, Sem.run_bind, run_underlying ht, run_underlying he, Result.andThen_ok, beq_self_eq_true, hr, Sem.run_pure]
  have A' : Arr (freeB x) w' b of cap z es := A.mono (fun b o u h1 h2 => ⟨h1, by rw [hcell]; exact h2⟩) (fun o u h => by rw [hcell]; exact h) (fun o u h1 h2 => by rw [hw.froz o ⟨u, h1⟩]; exact h2)
  have R1 : Rel cfg x N s a w' := (R.write hs h1 how hw A' rfl rfl hcap).congr (fun l => by
    rw [updG_one]
    split
    · rename_i e; rw [e, hs]
    · rfl)
  cases own
  · obtain ⟨b2, how2, _, R2⟩ := R1.release hs
    obtain ⟨u, hu, hrd⟩ := R2.locs (.slot j) (.d (.sl es)) (by rw [updG_one, if_pos rfl])
    have hu' : u = .slice (some (ad3 b of)) es.length cap := by
      have h1' : conc (x.give b2 none) a w' (.slot j) = some (.slice (some (ad3 b of)) es.length cap) := h1
      rw [h1'] at hu
      exact (Option.some.inj hu).symm
    subst hu'
    have R3 : Rel cfg (x.give b2 none) N (updG s [(.slot j, .junk)]) a w' := (R2.forget (l0 := .slot j) (by simp [updG_one])).congr (fun l => by
      simp only [updG_one]
      split <;> rfl)
    refine ⟨_, w', x.give b2 none, .inl hrun, ?_, (Fr.write how hw).trans (Fr.give how2 _)⟩
    rw [hd]
    exact (R3.put hk rfl (l := none) (.d _ _ _ hrd.d_inv)).landed
  · refine ⟨_, w', x.give b (some (.at (.slot k))), .inl hrun, ?_, (Fr.write how hw).trans (Fr.give how _)⟩
    rw [hd]
    exact R1.handAny hk hs how A' rfl hcap

theorem sim_s2b (R : Rel cfg x N s a w) {o : Oper} {sT dT e : TypeId} {X : Operand} (ho : o.op = .convert sT dT X) {k : Nat} (hd : o.dst = some k) (hk : k < N) {p : IOpd} (hX : cOpd X = some p) (hs : P.underlying sT = some .string)
    (ht : P.underlying dT = some (.slice e)) (he : P.underlying e = some (.int .u8)) {b : List UInt8} (hy : val cfg s p = some (.d (.str b))) (own : Bool) :
    Goes P cfg x N dep (updG s (put1 o.dst (if own then .own true 1 (b.map byteD) else .d (.sl (b.map byteD))))) a w o := by
  obtain ⟨l0, hr, _⟩ := val_rd R hX hy
  have hv := hr.d_inv.str_inv
  have hrun := run_bytes_of_string (P := P) w sT dT e ⟨b.toArray⟩ hs ht he
  rw [← hv] at hrun
  have hexe := execOp_convert (a := a) ho hrun
  have hsz : (ByteArray.mk b.toArray).size = b.length := by simp [ByteArray.size]
  rw [hsz] at hexe
  have hcap : b.length ≤ grownCap w b.length 0 e := grownCap_ge3 w _ _ e
  generalize grownCap w b.length 0 e = cap at hexe hcap
  have hrow : (bytesRow ⟨b.toArray⟩ cap).size = cap := by simp [bytesRow, hsz]; omega
  have hat : ∀ (j : Nat) c, (b.map byteD)[j]? = some c → ∃ v, (bytesRow ⟨b.toArray⟩ cap)[j]? = some v ∧ ∀ F w', Rd F w' v c := by
    intro j c hc
    rw [List.getElem?_map] at hc
    cases hb : b[j]? with
    | none => rw [hb] at hc; cases hc
    | some y =>
      rw [hb] at hc
      cases hc
      obtain ⟨hlt, hbe⟩ := List.getElem?_eq_some_iff.1 hb
      refine ⟨_, bytesRow_at ⟨b.toArray⟩ cap j (by simpa using hlt), fun F w' => ?_⟩
      simp only [List.getElem_toArray, hbe]
      exact rd_byte y
  generalize bytesRow ⟨b.toArray⟩ cap = row at hexe hrow hat
  have hcell : ∀ j, (w.drew.alloc (.cells row e (row.size, row.size + 1))).cell? (ad3 w.heap.size j) = row[j]? := fun j => World.cell?_alloc_mark w.drew row e _ j
  have hfroz : ∀ j, j < cap → (w.drew.alloc (.cells row e (row.size, row.size + 1))).frozen? (ad3 w.heap.size j) = false := fun j hj => by
    have := World.frozen?_alloc_mark w.drew row e row.size (row.size + 1) j
    refine Eq.trans this ?_
    rw [hrow]
    simp; omega
  have hlen : (b.map byteD).length = b.length := by simp
  have hwid : ∀ e ∈ b.map byteD, e.cells.length = 1 ∧ ∀ c ∈ e.cells, c.isCell = true := fun e he => by
    obtain ⟨y, _, rfl⟩ := List.mem_map.1 he
    exact ⟨rfl, fun c hc => by simp [byteD, D.cells] at hc; subst hc; rfl⟩
  have hone : ∀ (i : Nat) e, (b.map byteD)[i]? = some e → ∀ (j : Nat) c, e.cells[j]? = some c → j = 0 ∧ c = e := fun i e he j c hc => by
    obtain ⟨y, _, rfl⟩ := List.mem_map.1 (List.mem_of_getElem? he)
    cases j with
    | zero => simp [byteD, D.cells] at hc; exact ⟨rfl, hc.symm⟩
    | succ j => simp [byteD, D.cells] at hc
  cases own
  · refine ⟨_, _, x.give w.heap.size none, .inl hexe, ?_, Fr.trans Fr.drew (Fr.alloc (w := w.drew) (.cells row e (row.size, row.size + 1)) _)⟩
    rw [hd]
    refine ((R.drew).alloc (.cells row e (row.size, row.size + 1)) none).put hk rfl (l := none) (.d _ _ _ ?_)
    have := Rd.sl_of (F := freeB (x.give w.heap.size none)) (w := w.drew.alloc (.cells row e (row.size, row.size + 1))) (b := w.heap.size) (o := 0) (cap := cap) (z := 1) (es := b.map byteD) (by omega) (fun e he => (hwid e he).1) (fun i e he => ?_)
    · rw [hlen] at this; exact this
    · refine ⟨(hwid e (List.mem_of_getElem? he)).2, fun j c hc => ?_⟩
      obtain ⟨rfl, rfl⟩ := hone i e he j c hc
      obtain ⟨v, g1, g2⟩ := hat i c he
      refine ⟨v, by simp [freeB, Cx.give], ?_, g2 _ _⟩
      rw [show ad3 w.heap.size (0 + i * 1 + 0) = ad3 w.heap.size i by simp [ad3], hcell]
      exact g1
  · refine ⟨_, _, x.give w.heap.size (some (.at (.slot k))), .inl hexe, ?_, Fr.trans Fr.drew (Fr.alloc (w := w.drew) (.cells row e (row.size, row.size + 1)) _)⟩
    rw [hd]
    refine ((R.drew).alloc (.cells row e (row.size, row.size + 1)) (some (.at (.slot k)))).putAt hk (by simp) ?_
    refine .own _ _ _ _ _ _ _ _ ?_ hlen hcap ⟨by decide, fun j hj => ⟨?_, ?_⟩, fun e he => (hwid e he).1, fun e he => (hwid e he).2, fun i e he j c hc => ?_⟩
    · show (x.give w.heap.size _).ow w.heap.size = _
      simp [Cx.give]
    · have hlt : j < row.size := by omega
      exact ⟨row[j], by rw [Nat.zero_add]; exact (hcell j).trans (Array.getElem?_eq_getElem hlt)⟩
    · rw [Nat.zero_add]; exact hfroz j (by omega)
    · obtain ⟨rfl, rfl⟩ := hone i e he j c hc
      obtain ⟨v, g1, g2⟩ := hat i c he
      refine ⟨v, ?_, g2 _ _⟩
      refine Eq.trans ?_ g1
      refine Eq.trans ?_ (hcell i)
      simp

theorem sim_b2s (R : Rel cfg x N s a w) {o : Oper} {sT dT e : TypeId} {X : Operand} (ho : o.op = .convert sT dT X) {k : Nat} (hd : o.dst = some k) (hk : k < N) {p : IOpd} (hX : cOpd X = some p) (hs : P.underlying sT = some (.slice e))
    (ht : P.underlying dT = some .string) (he : P.underlying e = some (.int .u8)) {y : V} (hy : val cfg s p = some y) {es : List D} (hc : cont s y = some es) {b : List UInt8} (hb : bytesOf? es = some b) :
    Goes P cfg x N dep (updG s (put1 o.dst (.d (.str b)))) a w o := by
  obtain ⟨ns, rfl, rfl⟩ := bytesOf_get hb
  have hz : ∀ ns : List Int, allZ 1 (ns.map (D.int .u8)) = true := by
    intro ns
    induction ns with
    | nil => rfl
    | cons n r ih => simpa [allZ, D.cells] using ih
  obtain ⟨news, S, hs2, ad, cp, hYe, hnil, hcell⟩ := cont_src (P := P) R hX hy hc (hz ns)
  have hnews : news = ns.map (Value.int .u8) := by
    refine List.ext_getElem? (fun j => ?_)
    rw [List.getElem?_map]
    cases hj : ns[j]? with
    | none =>
      have hlt := S.num
      rw [List.getElem?_eq_none_iff] at hj
      simp only [List.length_map, Nat.mul_one] at hlt
      rw [List.getElem?_eq_none_iff.2 (by omega)]
      rfl
    | some n =>
      obtain ⟨_, v, g1, g2, _⟩ := hs2 j (.int .u8 n) (by rw [List.getElem?_map, hj]; rfl) 0 _ rfl
      have := g2.int_inv
      subst this
      simpa using g1
  have hrun : (convert sT dT (a.eval X)).run P w = .ok (.string ⟨(ns.map fun n => UInt8.ofNat n.toNat).toArray⟩) w := by
    rw [hYe, run_convert_bytes_string w sT dT e ad _ cp hs he ht]
    cases ad with
    | none =>
      have := hnil rfl
      simp only [List.map_eq_nil_iff] at this
      subst this
      rfl
    | some a0 =>
      have hl := run_loadCells_list (P := P) w a0 news (fun m v hm => hcell a0 rfl m v hm)
      rw [hnews] at hl
      simp only [List.length_map] at hl
      rw [List.length_map, run_bytesToString w a0 _ cp ns hl, foldl_push_ints]
      simp [ByteArray.empty, ByteArray.emptyWithCapacity]
      rfl
  exact goes_d R hd hk (execOp_convert ho hrun) (.str _)

end
end Go.Ev

/-! EvW -/
/- One operation that calls nothing: the model goes where the evaluator goes. Own work. -/
namespace Go.Ev
open Go

section
variable {P : Program} {cfg : Cfg} {x : Cx} {N dep : Nat} {s : Get} {a : Act} {w : World}

theorem valD0_storable {v : Value} {d : D} (h : valD0 v = some d) : d.storable = true := by
  unfold valD0 at h
  split at h <;> cases h <;> rfl

theorem valD_storable {v : Value} {d : D} (h : valD v = some d) : d.storable = true := by
  unfold valD at h
  split at h
  · simp only [Option.map_eq_some_iff] at h
    obtain ⟨cs, _, rfl⟩ := h
    rfl
  · exact valD0_storable h

theorem zeroD_storable {t : TypeId} {d : D} (h : zeroD P t = some d) : d.storable = true := by
  simp only [zeroD, Option.bind_eq_some_iff] at h
  obtain ⟨v, _, h⟩ := h
  exact valD_storable h

theorem str_src (R : Rel cfg x N s a w) {X : Operand} {p : IOpd} (hX : cOpd X = some p) {b : List UInt8} (hy : val cfg s p = some (.d (.str b))) :
    ∃ news, Src P w 1 (a.eval X) (b.map byteD).length news ∧ (∀ (i : Nat) e, (b.map byteD)[i]? = some e → ∀ (j : Nat) c, e.cells[j]? = some c → c.isCell = true ∧ ∃ v, news[i * 1 + j]? = some v ∧ Rd (freeB x) w v c ∧ v.oneCell' = true) := by
  obtain ⟨l, hr, _⟩ := val_rd R hX hy
  have e := hr.d_inv.str_inv
  rw [e]
  refine ⟨b.map fun c => Value.int .u8 c.toNat, ⟨fun w' => by simp [Builtin.lenOf, ByteArray.size], fun w' _ => ?_, by simp, fun v hv => ?_⟩, fun i e he j c hc => ?_⟩
  · simp [Builtin.firstCells]
  · obtain ⟨c, _, rfl⟩ := List.mem_map.1 hv
    rfl
  · rw [List.getElem?_map] at he
    cases hb : b[i]? with
    | none => rw [hb] at he; cases he
    | some y =>
      rw [hb] at he
      cases he
      cases j with
      | succ j => simp [byteD, D.cells] at hc
      | zero =>
        simp [byteD, D.cells] at hc
        subst hc
        exact ⟨rfl, .int .u8 y.toNat, by simp [hb], .int _ _, rfl⟩

theorem mk1 {c : Array Operand} {X : Operand} {p : IOpd} (h : cOpds c.toList = some [p]) : ∃ X, c.toList = [X] ∧ cOpd X = some p := by
  cases h1 : c.toList with
  | nil => rw [h1] at h; cases h
  | cons X r =>
    rw [h1] at h
    unfold cOpds at h
    split at h
    · rename_i a b h2 h3
      cases h
      cases r with
      | nil => exact ⟨X, rfl, h2⟩
      | cons Y r => 
        unfold cOpds at h3
        split at h3 <;> cases h3
    · cases h

theorem mk2 {c : Array Operand} {p q : IOpd} (h : cOpds c.toList = some [p, q]) : ∃ X Y, c.toList = [X, Y] ∧ cOpd X = some p ∧ cOpd Y = some q := by
  cases h1 : c.toList with
  | nil => rw [h1] at h; cases h
  | cons X r =>
    rw [h1] at h
    unfold cOpds at h
    split at h
    · rename_i a b h2 h3
      cases h
      cases r with
      | nil => cases h3
      | cons Y r =>
        unfold cOpds at h3
        split at h3
        · rename_i a b h4 h5
          cases h3
          cases r with
          | nil => exact ⟨X, Y, rfl, h2, h4⟩
          | cons Z r =>
            unfold cOpds at h5
            split at h5 <;> cases h5
        · cases h3
    · cases h

/-- a builtin -/
theorem sim_blt (R : Rel cfg x N s a w) {o : Oper} {c : Call} (ho : o.op = .call c) {b : Builtin} (hb : c.callee = .builtin b) {args : List IOpd} (hargs : cOpds c.args.toList = some args) {io : IOp}
    (hop : cBuiltin P b args c.argTypes.toList = some io) {k : Nat} (hd : o.dst = some k) (hk : k < N) {u : List (Loc × V)} (hu : evOp cfg dep s o.dst io = some u) : Goes P cfg x N dep (updG s u) a w o := by
  unfold cBuiltin at hop
  split at hop
  · -- len
    rename_i p t htys
    obtain ⟨X, hX1, hX⟩ := mk1 (X := .tmp 0) hargs
    split at hop
    · rename_i ht
      cases hop
      simp only [evOp] at hu
      split at hu
      · rename_i b hy
        cases hu
        exact sim_len R ho hb hX1 htys hd hk hX (.inl ht) hy rfl ⟨fun _ => ht, fun _ => ⟨_, rfl⟩⟩
      · cases hu
    · rename_i e ht
      cases hop
      simp only [evOp] at hu
      split at hu
      · rename_i v hy
        split at hu <;> cases hu
        all_goals exact sim_len R ho hb hX1 htys hd hk hX (.inr ⟨e, ht⟩) hy rfl ⟨(fun ⟨_, h⟩ => by cases h), (fun h => by rw [ht] at h; cases h)⟩
      · cases hu
    · cases hop
  · cases hop
    simp only [evOp, Option.bind_eq_some_iff, Option.map_eq_some_iff] at hu
    obtain ⟨l, hl, r, hr, rfl⟩ := hu
    exact sim_minmax (mx := false) R ho hb hd hk hargs hl hr
  · cases hop
    simp only [evOp, Option.bind_eq_some_iff, Option.map_eq_some_iff] at hu
    obtain ⟨l, hl, r, hr, rfl⟩ := hu
    exact sim_minmax (mx := true) R ho hb hd hk hargs hl hr
  · -- append
    rename_i p q t u' htys
    obtain ⟨X, Y, hXY, hX, hY⟩ := mk2 hargs
    split at hop
    · rename_i e e' ht hu'
      split at hop
      · rename_i i zd hi hzd
        split at hop
        · rename_i hq
          obtain ⟨rfl, hz0, hb0, hzl⟩ := hq
          cases hop
          simp only [evOp] at hu
          split at hu
          · rename_i v ys hv hys
            simp only [Option.bind_eq_some_iff] at hys
            obtain ⟨yv, hyv, hcont⟩ := hys
            have hz : allZ i.size ys = true := by
              unfold evAppend at hu
              split at hu
              · rename_i h; simp only [Bool.and_eq_true] at h; exact h.1
              · cases hu
            obtain ⟨news, S, hs, _⟩ := cont_src (P := P) R hY hyv hcont hz
            rw [hd] at hu
            exact sim_app R ho hb hd hk hXY htys ht hu' (by simp) hi hzd hzl (zeroD_storable hzd) hb0 hz0 hX hv S hs hu
          · cases hu
        · cases hop
      · cases hop
    · rename_i e ht hu'
      split at hop
      · rename_i i n hi he hzd
        split at hop
        · rename_i hq
          obtain ⟨hs1, hb1⟩ := hq
          cases hop
          simp only [evOp] at hu
          split at hu
          · rename_i v b' hv hyv
            obtain ⟨news, S, hs⟩ := str_src (P := P) R hY hyv
            rw [hd] at hu
            exact sim_app R ho hb hd hk hXY htys ht hu' (by simp) hi hzd (by rw [hs1]; rfl) rfl (by omega) (by omega) hX hv (by rw [hs1]; exact S) (by rw [hs1]; exact hs) (by rw [hs1, hb1]; exact hu)
          · cases hu
        · cases hop
      · cases hop
    · cases hop
  · -- copy
    rename_i p q t u' htys
    obtain ⟨X, Y, hXY, hX, hY⟩ := mk2 hargs
    split at hop
    · rename_i e e' ht hu'
      split at hop
      · rename_i z z' hz hz'
        split at hop
        · rename_i hq
          cases hop
          simp only [evOp] at hu
          split at hu
          · rename_i v ys hv hys
            simp only [Option.bind_eq_some_iff] at hys
            obtain ⟨yv, hyv, hcont⟩ := hys
            exact sim_copy R ho hb hd hk hXY htys ht hz hX hY hv hyv hcont hu
          · cases hu
        · cases hop
      · cases hop
    · cases hop
  · cases hop

end
end Go.Ev

/-! EvX -/
/- One operation that calls nothing: all kinds. Own work. -/
namespace Go.Ev
open Go

section
variable {P : Program} {cfg : Cfg} {x : Cx} {N dep : Nat} {s : Get} {a : Act} {w : World}

theorem sim_op (hI : IntTyOk P cfg) (R : Rel cfg x N s a w) {o : Oper} {own : Bool} {io : IOp} (hop : cOp P own o.op = some io) (hk : ∀ k, o.dst = some k → k < N) (hds : o.dst = none → io.isStore = true)
    {u : List (Loc × V)} (hu : evOp cfg dep s o.dst io = some u) : Goes P cfg x N dep (updG s u) a w o := by
  have dst1 : io.isStore = false → ∃ k, o.dst = some k ∧ k < N := fun h => by
    cases hd : o.dst with
    | none => rw [hds hd] at h; cases h
    | some k => exact ⟨k, rfl, hk k hd⟩
  cases ho : o.op with
  | move X =>
    rw [ho] at hop
    simp only [cOp, Option.map_eq_some_iff] at hop
    obtain ⟨ix, hX, rfl⟩ := hop
    obtain ⟨k, hd, hkN⟩ := dst1 rfl
    simp only [evOp, Option.bind_eq_some_iff] at hu
    obtain ⟨y, hy, hu⟩ := hu
    rw [hd] at hu
    exact sim_mv R (.inl ho) hd hkN hX hy hu
  | assign X =>
    rw [ho] at hop
    simp only [cOp, Option.map_eq_some_iff] at hop
    obtain ⟨ix, hX, rfl⟩ := hop
    obtain ⟨k, hd, hkN⟩ := dst1 rfl
    simp only [evOp, Option.bind_eq_some_iff] at hu
    obtain ⟨y, hy, hu⟩ := hu
    rw [hd] at hu
    exact sim_asg R ho hd hkN hX hy hu
  | pick C A B =>
    rw [ho] at hop
    simp only [cOp] at hop
    split at hop
    · rename_i c p q hC hA hB
      cases hop
      obtain ⟨k, hd, hkN⟩ := dst1 rfl
      simp only [evOp] at hu
      split at hu
      · rename_i t hc
        split at hu
        · rename_i y hy
          cases hu
          exact sim_pick R ho hd hkN hC hA hB hc hy
        · cases hu
      · cases hu
    · cases hop
  | alloc t =>
    rw [ho] at hop
    simp only [cOp] at hop
    split at hop
    · rename_i z n hz hn
      split at hop
      · rename_i hq
        cases hop
        obtain ⟨k, hd, hkN⟩ := dst1 rfl
        simp only [evOp, hd] at hu
        split at hu
        · cases hu
        · rename_i hno
          cases hu
          simp only [Bool.or_eq_true, not_or, Bool.not_eq_true, Option.isSome_eq_false_iff, Option.isNone_iff_eq_none] at hno
          exact sim_alloc R ho hd hkN hz (by intro e; rw [e] at hq; simp at hq; omega) (zeroD_storable hz) hno.1
      · cases hop
    · cases hop
  | box t X =>
    rw [ho] at hop
    simp only [cOp] at hop
    split at hop
    · rename_i p n hX hn
      split at hop
      · cases hop
        obtain ⟨k, hd, hkN⟩ := dst1 rfl
        simp only [evOp, hd] at hu
        split at hu
        · rename_i k' y hk' hy
          cases hk'
          exact sim_box R ho hd hkN hX hy hu
        · cases hu
      · cases hop
    · cases hop
  | build t ps =>
    rw [ho] at hop
    simp only [cOp] at hop
    split at hop
    · rename_i fs zs ht hzd
      split at hop
      · rename_i pl hpl
        simp only [Option.map_eq_some_iff] at hop
        obtain ⟨l, hl, rfl⟩ := hop
        obtain ⟨k, hd, hkN⟩ := dst1 rfl
        simp only [evOp, Option.bind_eq_some_iff, Option.map_eq_some_iff] at hu
        obtain ⟨ds, hds', cs, hf, rfl⟩ := hu
        exact sim_build R ho hd hkN ht hzd hpl hl hds' hf
      · cases hop
    · rename_i n e zs ht hzd
      split at hop
      · rename_i z hz
        simp only [Option.map_eq_some_iff] at hop
        obtain ⟨l, hl, rfl⟩ := hop
        obtain ⟨k, hd, hkN⟩ := dst1 rfl
        simp only [evOp, Option.bind_eq_some_iff, Option.map_eq_some_iff] at hu
        obtain ⟨ds, hds', cs, hf, rfl⟩ := hu
        exact sim_buildA R ho hd hkN ht hzd hz hl hds' hf
      · cases hop
    · cases hop
  | buildSlice t n ps =>
    rw [ho] at hop
    simp only [cOp] at hop
    split at hop
    · rename_i e ht
      split at hop
      · rename_i z zd l hz hzd hl
        split at hop
        · rename_i hq
          cases hop
          obtain ⟨k, hd, hkN⟩ := dst1 rfl
          simp only [evOp, Option.bind_eq_some_iff] at hu
          obtain ⟨ds, hds', hu⟩ := hu
          split at hu
          · rename_i hq2
            simp only [Option.map_eq_some_iff] at hu
            obtain ⟨es, hf, rfl⟩ := hu
            rw [hd]
            have hlit := sim_lit (dep := dep) R ho hd hkN ht hz hzd hl hq.1 hq.2.1 hq.2.2 hds' hq2.1 hq2.2.2 hf own
            exact hlit
          · cases hu
        · cases hop
      · cases hop
    · cases hop
  | load t A =>
    rw [ho] at hop
    simp only [cOp] at hop
    split at hop
    · rename_i z p hz hX
      cases hop
      obtain ⟨k, hd, hkN⟩ := dst1 rfl
      simp only [evOp, Option.bind_eq_some_iff] at hu
      obtain ⟨y, hy, hu⟩ := hu
      rw [hd] at hu
      exact sim_load R ho hd hkN hX hz hy hu
    · cases hop
  | store t A X =>
    rw [ho] at hop
    simp only [cOp] at hop
    split at hop
    · rename_i n p q hn hA hX
      cases hop
      simp only [evOp] at hu
      split at hu
      · rename_i ya yx hya hyx
        split at hu
        · cases hu
        · rename_i hnone
          exact sim_store R ho (by simpa using hnone) hn hA hX hya hyx hu
      · cases hu
    · cases hop
  | nilCheck X =>
    rw [ho] at hop
    simp only [cOp, Option.map_eq_some_iff] at hop
    obtain ⟨ix, hX, rfl⟩ := hop
    obtain ⟨k, hd, hkN⟩ := dst1 rfl
    simp only [evOp, Option.bind_eq_some_iff] at hu
    obtain ⟨y, hy, hu⟩ := hu
    rw [hd] at hu
    exact sim_nil R ho hd hkN hX hy hu
  | binOp op t X Y t' =>
    rw [ho] at hop
    simp only [cOp] at hop
    have hbin : ∀ p q, cOpd X = some p → cOpd Y = some q → io = .bin op p q → Goes P cfg x N dep (updG s u) a w o := by
      rintro p q hX hY rfl
      obtain ⟨k, hd, hkN⟩ := dst1 rfl
      simp only [evOp] at hu
      split at hu
      · rename_i c d hc hdd
        simp only [Option.map_eq_some_iff] at hu
        obtain ⟨r, hr, rfl⟩ := hu
        exact sim_bin R ho hd hkN hX hY hc hdd hr
      · cases hu
    have heqn : ∀ p q d cls neg, cOpd X = some p → cOpd Y = some q → P.underlying t = some d → eclsOf d = some cls → (op = if neg then .neq else .eql) → io = .eqn neg cls p q → Goes P cfg x N dep (updG s u) a w o := by
      rintro p q d cls neg hX hY ht hcls hop' rfl
      obtain ⟨k, hd, hkN⟩ := dst1 rfl
      simp only [evOp] at hu
      split at hu
      · rename_i c e hc he
        simp only [Option.map_eq_some_iff] at hu
        obtain ⟨r, hr, rfl⟩ := hu
        exact sim_eqn hI R hop' ho hd hkN hX hY ht hcls hc he hr
      · cases hu
    split at hop
    · rename_i p q k hX hY ht
      cases hop
      exact hbin p q hX hY rfl
    · rename_i p q hX hY ht
      cases hop
      exact hbin p q hX hY rfl
    · rename_i p el hX hY ht
      have hnil : ∀ neg, (op = if neg then .neq else .eql) → io = .isNil neg p → Goes P cfg x N dep (updG s u) a w o := by
        rintro neg hop' rfl
        obtain ⟨k, hd, hkN⟩ := dst1 rfl
        simp only [evOp, Option.bind_eq_some_iff, Option.map_eq_some_iff] at hu
        obtain ⟨c, hc, r, hr, rfl⟩ := hu
        exact sim_isNil R hop' ho hd hkN hX hY ht hc hr
      split at hop
      · cases hop; exact hnil false rfl rfl
      · cases hop; exact hnil true rfl rfl
      · cases hop
    · rename_i p q fs hX hY ht
      have hS : ∀ ks neg, flatEq P t fs = some ks → (op = if neg then .neq else .eql) → io = .eqn neg (.agg ks) p q → Goes P cfg x N dep (updG s u) a w o := by
        rintro ks neg hks hop' rfl
        obtain ⟨k, hd, hkN⟩ := dst1 rfl
        simp only [evOp] at hu
        split at hu
        · rename_i c e hc he
          simp only [Option.map_eq_some_iff] at hu
          obtain ⟨r, hr, rfl⟩ := hu
          exact sim_eqS R hop' ho hd hkN hX hY ht hks hc he hr
        · cases hu
      split at hop
      · rename_i ks hks
        cases hop
        exact hS ks false hks rfl rfl
      · rename_i ks hks
        cases hop
        exact hS ks true hks rfl rfl
      · cases hop
    · rename_i p q d _ _ _ _ hX hY ht
      split at hop
      · rename_i cls hcls
        cases hop
        exact heqn p q d cls false hX hY ht hcls rfl rfl
      · rename_i cls hcls
        cases hop
        exact heqn p q d cls true hX hY ht hcls rfl rfl
      · cases hop
    · cases hop
  | unOp op t X =>
    rw [ho] at hop
    simp only [cOp, Option.map_eq_some_iff] at hop
    obtain ⟨ix, hX, rfl⟩ := hop
    obtain ⟨k, hd, hkN⟩ := dst1 rfl
    simp only [evOp] at hu
    split at hu
    · rename_i c hc
      simp only [Option.map_eq_some_iff] at hu
      obtain ⟨r, hr, rfl⟩ := hu
      exact sim_un R ho hd hkN hX hc hr
    · cases hu
  | convert sT dT X =>
    rw [ho] at hop
    simp only [cOp] at hop
    split at hop
    · rename_i q' q p ht ht' hX
      cases hop
      obtain ⟨k, hd, hkN⟩ := dst1 rfl
      simp only [evOp] at hu
      split at hu
      · rename_i k' n hc
        cases hu
        exact sim_cvInt R ho hd hkN hX ht ht' hc
      · cases hu
    · rename_i p ht ht' hX
      cases hop
      obtain ⟨k, hd, hkN⟩ := dst1 rfl
      simp only [evOp] at hu
      split at hu
      · rename_i b hc
        cases hu
        exact sim_cvStr R ho hd hkN hX ht ht' hc
      · cases hu
    · rename_i e p ht ht' hX
      split at hop
      · rename_i he
        cases hop
        obtain ⟨k, hd, hkN⟩ := dst1 rfl
        simp only [evOp, Option.bind_eq_some_iff, Option.map_eq_some_iff] at hu
        obtain ⟨es, ⟨y, hy, hc⟩, b, hb, rfl⟩ := hu
        exact sim_b2s R ho hd hkN hX ht ht' he hy hc hb
      · cases hop
    · rename_i e p ht ht' hX
      split at hop
      · rename_i he hsz
        cases hop
        obtain ⟨k, hd, hkN⟩ := dst1 rfl
        simp only [evOp] at hu
        split at hu
        · rename_i b hy
          split at hu
          · cases hu
            exact sim_s2b R ho hd hkN hX ht ht' he hy own
          · cases hu
        · cases hu
      · cases hop
    · rename_i e p ht ht' hX
      split at hop
      · rename_i he
        split at hop
        · rename_i hst
          cases hop
          obtain ⟨rfl, _⟩ := hst
          obtain ⟨k, hd, hkN⟩ := dst1 rfl
          simp only [evOp] at hu
          split at hu
          · rename_i j nw z es hy
            cases hu
            have hXj : X = .tmp j := by
              cases X with
              | tmp t => cases hX; rfl
              | const v => simp [cOpd] at hX
              | global g => simp [cOpd] at hX
              | func f => simp [cOpd] at hX
            subst hXj
            exact sim_cvB R ho hd hkN ht' he hy own
          · cases hu
        · cases hop
      · cases hop
    · cases hop
  | makeInterface t X =>
    rw [ho] at hop
    simp only [cOp] at hop
    split at hop
    · cases hop
    · rename_i d p hni ht hX
      cases hop
      obtain ⟨k, hd, hkN⟩ := dst1 rfl
      simp only [evOp] at hu
      cases hy : val cfg s p with
      | none => rw [hy] at hu; cases hu
      | some y =>
        rw [hy] at hu
        refine sim_mkI R ho hd hkN hX ht (fun ms e => hni ms e) hy (u := u) ?_
        cases y with
        | d c => exact hu
        | iptr e off => cases off <;> exact hu
        | ref d k off => exact hu
        | _ => cases hu
    · cases hop
  | makeFunc f A B =>
    rw [ho] at hop
    cases f with
    | func f =>
      simp only [cOp] at hop
      split at hop
      · rename_i ia ib hA hB
        cases hop
        obtain ⟨k, hd, hkN⟩ := dst1 rfl
        simp only [evOp] at hu
        rw [hd] at hu
        split at hu
        · rename_i hx hy
          exact sim_mkF R ho hd hkN hA hB hx hy hu
        · rename_i xs ys hno hx hy
          exact sim_mkF R ho hd hkN hA hB hx hy (by
            split
            · exact absurd rfl (hno rfl)
            · exact hu)
        · cases hu
      · cases hop
    | _ => simp [cOp] at hop
  | makeSlice t L C =>
    rw [ho] at hop
    simp only [cOp] at hop
    split at hop
    · rename_i e ht
      split at hop
      · rename_i i zd l c hi hzd hL hC
        split at hop
        · rename_i hz0
          cases hop
          obtain ⟨k, hd, hkN⟩ := dst1 rfl
          simp only [evOp] at hu
          split at hu
          · rename_i n m hn hm
            split at hu
            · rename_i hq
              cases hu
              exact sim_mkS R ho hd hkN ht hi hzd hL hC hz0 hn hm hq
            · cases hu
          · cases hu
        · cases hop
      · cases hop
    · cases hop
  | slice t X lo hi mx =>
    rw [ho] at hop
    simp only [cOp] at hop
    split at hop
    · rename_i e p ilo ihi imx ht hX hlo hhi hmx
      split at hop
      · rename_i z hz
        split at hop
        · cases hop
          obtain ⟨k, hd, hkN⟩ := dst1 rfl
          simp only [evOp, Option.bind_eq_some_iff] at hu
          obtain ⟨y, hy, hu⟩ := hu
          rw [hd] at hu
          exact sim_slice R ho hd hkN hX hlo hhi hmx ht hz hy hu
        · cases hop
      · cases hop
    · rename_i p ilo ihi ht hX hlo hhi hmx
      cases hop
      obtain ⟨k, hd, hkN⟩ := dst1 rfl
      have hmx0 : mx = none := by
        cases mx with
        | none => rfl
        | some M => simp [cOpdO] at hmx
      subst hmx0
      simp only [evOp] at hu
      split at hu
      · rename_i b hy
        simp only [Option.map_eq_some_iff] at hu
        obtain ⟨⟨l, h⟩, hb, rfl⟩ := hu
        exact sim_sliceS R ho hd hkN hX hlo hhi ht hy hb
      · cases hu
    · cases hop
  | fieldAddr t X f =>
    rw [ho] at hop
    simp only [cOp] at hop
    split at hop
    · rename_i fs p ht hX
      split at hop
      · rename_i fd hf
        split at hop
        · rename_i n hn
          split at hop
          · rename_i hn0
            cases hop
            obtain ⟨k, hd, hkN⟩ := dst1 rfl
            simp only [evOp] at hu
            cases hy : val cfg s p with
            | none => rw [hy] at hu; cases hu
            | some y =>
              rw [hy, hd] at hu
              exact sim_fieldA R ho hd hkN hX ht hf hn hn0 hy hu rfl
          · cases hop
        · cases hop
      · cases hop
    · cases hop
  | field t X f =>
    rw [ho] at hop
    simp only [cOp] at hop
    split at hop
    · rename_i fs p ht hX
      split at hop
      · rename_i fd hf
        simp only [Option.map_eq_some_iff] at hop
        obtain ⟨z, hz, rfl⟩ := hop
        obtain ⟨k, hd, hkN⟩ := dst1 rfl
        simp only [evOp] at hu
        split at hu
        · rename_i cs hy
          simp only [Option.map_eq_some_iff] at hu
          obtain ⟨r, hr, rfl⟩ := hu
          exact sim_field R ho hd hkN hX ht hf hz hy hr
        · cases hu
      · cases hop
    · cases hop
  | indexAddr t X I =>
    rw [ho] at hop
    simp only [cOp] at hop
    split at hop
    · rename_i e p q ht hX hI'
      split at hop
      · rename_i z hz
        split at hop
        · cases hop
          obtain ⟨k, hd, hkN⟩ := dst1 rfl
          simp only [evOp] at hu
          split at hu
          · rename_i y n hy hn
            rw [hd] at hu
            exact sim_idxA R ho hd hkN hX hI' ht hz hy hn hu
          · cases hu
        · cases hop
      · cases hop
    · rename_i n e p q ht hX hI'
      split at hop
      · rename_i z hz
        split at hop
        · cases hop
          obtain ⟨k, hd, hkN⟩ := dst1 rfl
          simp only [evOp] at hu
          split at hu
          · rename_i y j hy hj
            split at hu
            · rename_i hb
              rw [hd] at hu
              exact sim_idxB R ho hd hkN hX hI' ht hz hu hy hj hb.1 hb.2
            · cases hu
          · cases hu
        · cases hop
      · cases hop
    · cases hop
  | index t X I =>
    rw [ho] at hop
    simp only [cOp] at hop
    have hidx : ∀ p q n e z zz g, cOpd X = some p → cOpd I = some q → P.underlying t = some (.array n e) → zOpt P e = some z → zz = z.getD 1 → (if g then some zz else none) = z → io = .idxC n zz g p q → Goes P cfg x N dep (updG s u) a w o := by
      rintro p q n e z zz g hX hI' ht hz h1 h2 rfl
      obtain ⟨k, hd, hkN⟩ := dst1 rfl
      simp only [evOp] at hu
      split at hu
      · rename_i cs j hy hj
        split at hu
        · rename_i hq
          simp only [Option.map_eq_some_iff] at hu
          obtain ⟨r, hr, rfl⟩ := hu
          rw [h2, h1] at hr
          exact sim_idxC R ho hd hkN hX hI' ht hz hy hj hq.1 hq.2 hr
        · cases hu
      · cases hu
    split at hop
    · rename_i p q ht hX hI'
      cases hop
      obtain ⟨k, hd, hkN⟩ := dst1 rfl
      simp only [evOp] at hu
      split at hu
      · rename_i b j hy hj
        split at hu
        · cases hu
        · rename_i h0
          simp only [Option.map_eq_some_iff] at hu
          obtain ⟨c, hc, rfl⟩ := hu
          exact sim_idxS R ho hd hkN hX hI' ht hy hj h0 hc
      · cases hu
    · rename_i n e p q ht hX hI'
      split at hop
      · rename_i hz
        cases hop
        exact hidx p q n e _ 1 false hX hI' ht hz rfl rfl rfl
      · rename_i z hz
        cases hop
        exact hidx p q n e _ z true hX hI' ht hz rfl rfl rfl
      · cases hop
    · cases hop
  | typeAssert X xt t ok =>
    rw [ho] at hop
    simp only [cOp] at hop
    split at hop
    · cases hop
    · rename_i d z p hni ht hz hX
      cases hop
      obtain ⟨k, hd, hkN⟩ := dst1 rfl
      simp only [evOp, Option.bind_eq_some_iff] at hu
      obtain ⟨y, hy, hu⟩ := hu
      rw [hd] at hu
      exact sim_tass R ho hd hkN hX ht (fun ms e => hni ms e) hz hy hu
    · cases hop
  | extract X i =>
    rw [ho] at hop
    simp only [cOp, Option.map_eq_some_iff] at hop
    obtain ⟨ix, hX, rfl⟩ := hop
    obtain ⟨k, hd, hkN⟩ := dst1 rfl
    simp only [evOp] at hu
    split at hu
    · rename_i ds hc
      simp only [Option.map_eq_some_iff] at hu
      obtain ⟨r, hr, rfl⟩ := hu
      exact sim_ext R ho hd hkN hX hc hr
    · cases hu
  | call c =>
    rw [ho] at hop
    simp only [cOp] at hop
    split at hop
    · rename_i args hargs
      cases hcal : c.callee with
      | value X =>
        rw [hcal] at hop
        have hno : evOp cfg dep s o.dst io = none := by
          cases X with
          | func f => cases hop; rfl
          | _ =>
            simp only [Option.map_eq_some_iff] at hop
            obtain ⟨p, _, rfl⟩ := hop
            rfl
        rw [hno] at hu
        cases hu
      | invoke r m =>
        rw [hcal] at hop
        simp only [Option.map_eq_some_iff] at hop
        obtain ⟨p, _, rfl⟩ := hop
        cases hu
      | builtin b =>
        rw [hcal] at hop
        have hop' : cBuiltin P b args c.argTypes.toList = some io := hop
        have hst : io.isStore = false := by
          cases io with
          | store n p q =>
            exfalso
            unfold cBuiltin at hop'
            repeat' split at hop'
            all_goals first | cases hop'; done | simp at hop'
          | _ => rfl
        obtain ⟨k, hd, hkN⟩ := dst1 hst
        exact sim_blt R ho hcal hargs hop' hd hkN hu
    · cases hop
  | _ =>
    rw [ho] at hop
    simp [cOp] at hop

end
end Go.Ev

/-! EvY -/
/- Calls by values. Own work. -/
namespace Go.Ev
open Go

/-- what a function does: it has a body, or none -/
def Does (P : Program) (f : FuncId) (args : Array Value) (w : World) (R : Value → World → Prop) : Prop :=
  (∃ v w', (callFunc f args).run P w = .ok (.value v) w' ∧ R v w') ∨
  ((callFunc f args).run P w = .ok (.enter f args) w ∧ Calls P f args w fun
    | .returned v, w' => R v w'
    | _, _ => False)

theorem Does.mono {P : Program} {f : FuncId} {args : Array Value} {w : World} {R R' : Value → World → Prop} (h : Does P f args w R) (hr : ∀ v w', R v w' → R' v w') : Does P f args w R' := by
  rcases h with ⟨v, w', h1, h2⟩ | ⟨h1, h2⟩
  · exact .inl ⟨v, w', h1, hr _ _ h2⟩
  · refine .inr ⟨h1, h2.mono fun e w' h => ?_⟩
    cases e with
    | returned v => exact hr _ _ h
    | panicked c => exact h
    | outgrown => exact h

/-- an operation: whatever is to come holds behind it -/
def Walks (P : Program) (cfg : Cfg) (x : Cx) (N dep : Nat) (s' : Get) (a : Act) (w : World) (o : Oper) : Prop :=
  ∀ (next : Act → World → Prop) (Q : Exit → Act → World → Prop), (∀ v w' x', Rel cfg x' N s' (a.put o.dst v) w' → Fr dep x x' w w' → next (a.put o.dst v) w') → o.wp P a w next Q

abbrev act0 : Act := ⟨#[], []⟩
abbrev get0 (m : List (Cel × V)) : Get := St.get ⟨[], m⟩

def ResOk (x : Cx) (s : Get) (cv : Loc → Option Value) (w : World) (v : Value) : V → Prop
  | .own _ z es => ∃ b o cap, v = .slice (some (ad3 b o)) es.length cap ∧ x.ow b = some .res ∧ es.length ≤ cap ∧ Arr (freeB x) w b o cap z es
  | r => RdV x s cv w none v r

theorem ResOk.of_rd {x : Cx} {s : Get} {cv : Loc → Option Value} {w : World} {v : Value} {y : V} (h : RdV x s cv w none v y) (hn : y.isOwn = false) : ResOk x s cv w v y := by
  cases y with
  | own nw z es => simp [V.isOwn] at hn
  | _ => exact h
theorem ResOk.rd {x : Cx} {s : Get} {cv : Loc → Option Value} {w : World} {v : Value} {y : V} (h : ResOk x s cv w v y) (hn : y.isOwn = false) : RdV x s cv w none v y := by
  cases y with
  | own nw z es => simp [V.isOwn] at hn
  | _ => exact h

/-- a call's arguments and memory -/
structure Enters (cfg : Cfg) (x : Cx) (vs : List V) (m : List (Cel × V)) (args : Array Value) (w : World) : Prop where
  rel : Rel cfg x 0 (get0 m) act0 w
  size : args.size = vs.length
  args : ∀ (i : Nat) v y, args[i]? = some v → vs[i]? = some y → ResOk x (get0 m) (conc x act0 w) w v y

structure Leaves (cfg : Cfg) (x x' : Cx) (dep : Nat) (m m' : List (Cel × V)) (r : V) (v : Value) (w w' : World) : Prop where
  rel : Rel cfg x' 0 (get0 m') act0 w'
  res : ResOk x' (get0 m') (conc x' act0 w') w' v r
  fr : Fr dep x x' w w'
  alive : ∀ c, c.d < dep → (lk m c).isSome → (lk m' c).isSome

def OrcOk (P : Program) (cfg : Cfg) (orc : Orc) : Prop :=
  ∀ f dep vs m r m', orc f dep vs m = some (r, m') → ∀ x w args, Enters cfg x vs m args w → Does P f args w fun v w' => ∃ x', Leaves cfg x x' dep m m' r v w w'

theorem allD_spec : ∀ {vs : List V} {ds : List D}, allD vs = some ds → vs = ds.map .d
  | [], ds, h => by cases h; rfl
  | .d x :: r, ds, h => by
    simp only [allD, Option.map_eq_some_iff] at h
    obtain ⟨ds', h1, rfl⟩ := h
    simp [allD_spec h1]
  | .own _ _ _ :: _, _, h | .bor _ _ _ :: _, _, h | .bref _ _ _ :: _, _, h | .iptr _ _ :: _, _, h | .ref _ _ _ :: _, _, h | .clo _ _ _ :: _, _, h | .ifc _ _ :: _, _, h | .junk :: _, _, h => by cases h

section
variable {P : Program} {cfg : Cfg} {x : Cx} {N dep : Nat} {s : Get} {a : Act} {w : World}

theorem Goes.walks {s' : Get} {o : Oper} (h : Goes P cfg x N dep s' a w o) : Walks P cfg x N dep s' a w o := by
  intro next Q hn
  obtain ⟨v, w', x', hr, hR, hF⟩ := h
  unfold Oper.wp
  rcases hr with hr | ⟨hr, rfl⟩
  · rw [hr]; exact hn v w' x' hR hF
  · rw [hr]; exact hn _ w' x' hR hF

theorem Walks.pre {x1 : Cx} {s' : Get} {o : Oper} (h : Walks P cfg x1 N dep s' a w o) (F : Fr dep x x1 w w) : Walks P cfg x N dep s' a w o := by
  intro next Q hn
  exact h next Q fun v w' x' R' F' => hn v w' x' R' (F.trans F')

theorem Does.walks {f : FuncId} {args : Array Value} {R : Value → World → Prop} (h : Does P f args w R) {o : Oper} (hrun : (execOp a.eval o).run P w = (callFunc f args).run P w) {s' : Get}
    (hR : ∀ v w', R v w' → ∃ x', Rel cfg x' N s' (a.put o.dst v) w' ∧ Fr dep x x' w w') : Walks P cfg x N dep s' a w o := by
  intro next Q hn
  unfold Oper.wp
  rw [hrun]
  rcases h with ⟨v, w', h1, h2⟩ | ⟨h1, h2⟩
  · rw [h1]
    obtain ⟨x', h3, h4⟩ := hR v w' h2
    exact hn v w' x' h3 h4
  · rw [h1, Oper.upon_enter]
    refine h2.mono fun e w' h => ?_
    cases e with
    | returned v =>
      obtain ⟨x', h3, h4⟩ := hR v w' h
      exact hn v w' x' h3 h4
    | panicked c => exact h.elim
    | outgrown => exact h.elim

/-- how a call by values sees the memory -/
def Cx.pure (x : Cx) (shared : Bool) : Cx := { x with ow := fun b => if shared then none else (x.ow b).map fun _ => .outer }

/-- how its caller sees it behind the call -/
def Cx.back (x x' : Cx) (n : Nat) (res : Option Own) : Cx := { x with ow := fun b => if b < n then x.ow b else match x'.ow b with
  | none => none
  | some .res => res
  | some _ => some .outer }

theorem pure_cases (x : Cx) (sh : Bool) (b : Nat) : (x.pure sh).ow b = none ∨ (x.pure sh).ow b = some .outer := by
  unfold Cx.pure
  simp only
  cases sh
  · cases x.ow b <;> simp
  · simp

theorem pure_none {x : Cx} {sh : Bool} {b : Nat} (h : x.ow b = none) : (x.pure sh).ow b = none := by
  simp [Cx.pure, h]

theorem Rel.enterPure (R : Rel cfg x N s a w) (sh : Bool) : Rel cfg (x.pure sh) 0 (get0 []) act0 w := by
  refine ⟨rfl, .nil rfl, fun b hb => R.bound b (fun e => hb (pure_none e)), fun l v h => ?_, fun k v h => ?_, fun c v h => ?_, fun n e hg => ?_, fun b h => ?_, fun n ob hg => ⟨pure_none (R.gobj n ob hg).1, (R.gobj n ob hg).2⟩⟩
  · cases l <;> cases h
  · cases h
  · cases h
  · exact (R.globs n e hg).mono fun b o u h1 h2 => ⟨pure_none h1, h2⟩
  · rcases pure_cases x sh b with e | e <;> rw [e] at h <;> rcases h with h | ⟨_, h⟩ <;> cases h

theorem plains_mem {d : D} : ∀ {cs : List D}, D.plains cs = true → d ∈ cs → d.plain = true
  | c :: cs, hp, hm => by
    simp only [D.plains, Bool.and_eq_true] at hp
    rcases List.mem_cons.1 hm with rfl | hm
    · exact hp.1
    · exact plains_mem hp.2 hm

theorem Rd.plain {F F' : Nat → Prop} {w w' : World} {v : Value} {d : D} (h : Rd F w v d) : d.plain = true → Rd F' w' v d := by
  induction h with
  | bool b => exact fun _ => .bool b
  | int k n => exact fun _ => .int k n
  | str s => exact fun _ => .str s
  | nilS ad => exact fun _ => .nilS ad
  | unkB b => exact fun _ => .unkB b
  | slA ad cap => exact fun _ => .slA ad cap
  | nilP => exact fun _ => .nilP
  | nilI => exact fun _ => .nilI
  | nilF => exact fun _ => .nilF
  | nilM => exact fun _ => .nilM
  | fn f => exact fun _ => .fn f
  | unk v h => exact fun _ => .unk v h
  | ifc t v d _ ih => exact fun hp => .ifc t v d (ih (by simpa [D.plain] using hp))
  | agg vs cs hl hc _ ih => exact fun hp => .agg vs cs hl hc fun i v c h1 h2 => ih i v c h1 h2 (plains_mem (by simpa [D.plain] using hp) (List.mem_of_getElem? h2))
  | tup vs cs hl _ ih => exact fun hp => .tup vs cs hl fun i v c h1 h2 => ih i v c h1 h2 (plains_mem (by simpa [D.plain] using hp) (List.mem_of_getElem? h2))
  | ptr => exact fun hp => by simp [D.plain] at hp
  | sl b o len cap z es vs hlen hcap =>
    intro hp
    cases es with
    | nil => exact .sl b o len cap z [] vs hlen hcap (by simp) (by simp) (by simp) (by simp)
    | cons e es => simp [D.plain] at hp

theorem plain_cell {d c : D} (h : d.plain = true) (hc : c ∈ d.cells) : c.plain = true := by
  unfold D.cells at hc
  split at hc
  · exact plains_mem (by simpa [D.plain] using h) hc
  · simp at hc; subst hc; exact h

/-- the caller's state behind a call by values -/
theorem Rel.backPure (R : Rel cfg x N s a w) {sh : Bool} {x' : Cx} {w' : World} {N' : Nat} {s' : Get} {a' : Act} {dep' : Nat} (hF : Fr dep' (x.pure sh) x' w w') (R' : Rel cfg x' N' s' a' w') (res : Option Own) :
    Rel cfg (x.back x' w.heap.size res) N s a w' ∧ Fr dep x (x.back x' w.heap.size res) w w' := by
  have hheap : ∀ b, b < w.heap.size → w'.heap[b]? = w.heap[b]? := fun b hb => (hF.same b hb (pure_cases x sh b)).1
  have hcell : ∀ b o u, w.cell? (ad3 b o) = some u → b < w.heap.size ∧ w'.cell? (ad3 b o) = some u := fun b o u h => by
    have hlt : b < w.heap.size := by simpa using World.block_lt_of_cell? _ _ h
    exact ⟨hlt, by rw [cell_of_heap (hheap b hlt)]; exact h⟩
  have how : ∀ b, b < w.heap.size → (x.back x' w.heap.size res).ow b = x.ow b := fun b hb => by simp [Cx.back, hb]
  refine ⟨R.step [] R.size rfl rfl ?_ ?_ (fun l hl => by simp at hl) (fun k hk => by simp at hk) ?_ hF.room (fun l hl => by simp at hl) (fun d k h => ⟨h, rfl⟩) ?_ ?_ ?_ (fun b _ hb => ⟨how b hb, hheap b hb⟩), ?_, ?_, ?_, hF.io, hF.room, rfl⟩
  · intro b hb
    by_cases hlt : b < w.heap.size
    · exact Nat.lt_of_lt_of_le hlt hF.size
    · refine R'.bound b fun e => hb ?_
      simp [Cx.back, hlt, e]
  · intro l _ v hv
    refine ⟨hv, fun u hu => ?_⟩
    cases l with
    | slot k => exact hu
    | cell c => exact (hcell _ _ _ hu).2
  · intro b o u h1 h2
    obtain ⟨h3, h4⟩ := hcell b o u h2
    exact ⟨by rw [how b h3]; exact h1, h4⟩
  · intro l0 _ b hb
    have hlt := R.bound b (by rw [hb]; simp)
    exact ⟨by rw [how b hlt]; exact hb, fun o u h => (hcell b o u h).2⟩
  · intro c v hc
    obtain ⟨h1, h2, h3⟩ := R.box c v hc
    have hlt := R.bound _ (by rw [h1]; simp)
    exact ⟨by rw [show (x.back x' w.heap.size res).ad = x.ad from rfl, how _ hlt]; exact h1, h2, by rw [show (x.back x' w.heap.size res).ad = x.ad from rfl, froz_of_heap (hheap _ hlt)]; exact h3⟩
  · intro b hb
    by_cases hlt : b < w.heap.size
    · rw [how b hlt] at hb
      exact (R.nofz b hb).heap (hheap b hlt)
    · refine R'.nofz b ?_
      simp only [Cx.back, if_neg hlt] at hb
      split at hb
      · rcases hb with h | ⟨_, h⟩ <;> cases h
      · rename_i e; exact .inl e
      · rcases hb with h | ⟨_, h⟩ <;> cases h
  · exact hF.size
  · intro b hb _
    exact ⟨hheap b hb, how b hb⟩
  · intro d k _
    rfl

theorem argD_rd (R : Rel cfg x N s a w) {v : Value} {y : V} {d : D} {sh1 : Bool} (h : argD s y = some (d, sh1)) {l : Option Loc} (hr : RdV x s (conc x a w) w l v y) (sh : Bool) (hsh : sh1 = true → sh = true) : Rd (freeB (x.pure sh)) w v d := by
  have hm : ∀ b o u, freeB x b → w.cell? (ad3 b o) = some u → freeB (x.pure sh) b ∧ w.cell? (ad3 b o) = some u := fun b o u h1 h2 => ⟨pure_none h1, h2⟩
  unfold argD at h
  split at h
  · cases h
    exact hr.d_inv.canon.mono hm
  · cases h
    exact hr.iptr_rd.mono hm
  · cases h
    have := hsh rfl
    subst this
    obtain ⟨l0, b, o, cap, _, e, _, hcap, A⟩ := hr.own_inv
    rw [e]
    exact (A.mono (F' := freeB (x.pure true)) hm (fun _ _ h => h) (fun _ _ _ h => h)).rd (by simp [freeB, Cx.pure]) rfl hcap
  · rename_i l off n
    split at h
    · rename_i z es hs
      cases h
      have := hsh rfl
      subst this
      obtain ⟨b, o', cap', e, _, q3, q4, A⟩ := R.bor_at hr hs
      have hlen : ((es.drop off).take n).length = n := by simp; omega
      rw [e]
      exact (A.mono (F' := freeB (x.pure true)) hm (fun _ _ h => h) (fun _ _ _ h => h)).rd (by simp [freeB, Cx.pure]) hlen q4
    · cases h
  · cases h

theorem argsD_rd (R : Rel cfg x N s a w) : ∀ {vs : List V} {ds : List D} {sh : Bool}, argsD s vs = some (ds, sh) → ∀ sh', (sh = true → sh' = true) → ds.length = vs.length ∧
    ∀ (i : Nat) y d, vs[i]? = some y → ds[i]? = some d → ∀ l v, RdV x s (conc x a w) w l v y → Rd (freeB (x.pure sh')) w v d
  | [], ds, sh, h, sh', _ => by cases h; simp
  | y :: vs, ds, sh, h, sh', hs => by
    unfold argsD at h
    split at h
    · rename_i d s1 ds' s2 h1 h2
      cases h
      obtain ⟨g1, g2⟩ := argsD_rd R h2 sh' (fun e => hs (by simp [e]))
      refine ⟨by simp [g1], fun i y' d' e1 e2 l v hr => ?_⟩
      cases i with
      | zero => simp at e1 e2; subst e1; subst e2; exact argD_rd R h1 hr sh' (fun e => hs (by simp [e]))
      | succ i => exact g2 i y' d' (by simpa using e1) (by simpa using e2) l v hr
    · cases h

/-- a call by values -/
theorem sim_callU {orc : Orc} (hO : OrcOk P cfg orc) (R : Rel cfg x N s a w) {o : Oper} {k : Nat} (hd : o.dst = some k) (hk : k < N) {f : FuncId} {args : Array Value} {vs : List V} (hrun : (execOp a.eval o).run P w = (callFunc f args).run P w)
    (hsz : args.size = vs.length) (hargs : ∀ (i : Nat) v y, args[i]? = some v → vs[i]? = some y → ∃ l, RdV x s (conc x a w) w l v y) {own : Bool} {u : List (Loc × V)} (hu : callU orc s o.dst own f vs = some u) : Walks P cfg x N dep (updG s u) a w o := by
  unfold callU at hu
  split at hu
  · rename_i ds sh hds
    split at hu
    · rename_i r m hor
      obtain ⟨g1, g2⟩ := argsD_rd R hds sh id
      have hE : Enters cfg (x.pure sh) (ds.map .d) [] args w := by
        refine ⟨R.enterPure sh, by simp [hsz, g1], fun i v y h1 h2 => ?_⟩
        rw [List.getElem?_map] at h2
        cases hd' : ds[i]? with
        | none => rw [hd'] at h2; cases h2
        | some d =>
          rw [hd'] at h2
          cases h2
          have hlt : i < vs.length := by rw [← g1]; exact (List.getElem?_eq_some_iff.1 hd').1
          obtain ⟨l, hr⟩ := hargs i v _ h1 (List.getElem?_eq_getElem hlt)
          exact RdV.d _ _ _ (g2 i _ d (List.getElem?_eq_getElem hlt) hd' l v hr)
      have hdoes := hO f 0 _ [] r m hor _ w args hE
      have hnew : ∀ (x' : Cx) w', Fr 0 (x.pure sh) x' w w' → ∀ b, x'.ow b = some .res → ¬ b < w.heap.size := fun x' w' F b hb hlt => by
        have := (F.same b hlt (pure_cases x sh b)).2
        rcases pure_cases x sh b with h | h <;> rw [hb, h] at this <;> cases this
      have hfree : ∀ (x' : Cx) w' res, Fr 0 (x.pure sh) x' w w' → sh = false → ∀ b o u, freeB x' b → w'.cell? (ad3 b o) = some u → freeB (x.back x' w.heap.size res) b ∧ w'.cell? (ad3 b o) = some u := by
        intro x' w' res F hsh b o u h1 h2
        refine ⟨?_, h2⟩
        subst hsh
        have h1' : x'.ow b = none := h1
        simp only [freeB, Cx.back]
        split
        · rename_i hlt
          have h3 := (F.same b hlt (pure_cases x false b)).2
          rw [h1'] at h3
          cases hx : x.ow b with
          | none => rfl
          | some o => simp [Cx.pure, hx] at h3
        · rw [h1']
      split at hu
      · rename_i u' hl
        cases hu
        unfold landed at hl
        split at hl
        · rename_i y
          split at hl
          · cases hl
          · rename_i hq
            cases hl
            refine hdoes.walks hrun (fun v w' hex => ?_)
            obtain ⟨x', L⟩ := hex
            rw [hd]
            obtain ⟨R2, F2⟩ := R.backPure (dep := dep) L.fr L.rel none
            have hr : Rd (freeB x') w' v y := RdV.d_inv L.res
            have hr2 : Rd (freeB (x.back x' w.heap.size none)) w' v y := by
              cases hsh : sh with
              | false => exact hr.mono (hfree x' w' none L.fr hsh)
              | true =>
                rw [hsh] at hq
                simp at hq
                exact hr.plain hq
            exact ⟨_, R2.put hk rfl (l := none) (.d _ _ _ (by split; exact hr2; exact hr2.canon)), F2⟩
        · rename_i nw z es
          split at hl
          · cases hl
          · rename_i hq
            cases hl
            refine hdoes.walks hrun (fun v w' hex => ?_)
            obtain ⟨x', L⟩ := hex
            rw [hd]
            obtain ⟨b, of, cap, rfl, q2, q3, A⟩ : ∃ b o cap, v = .slice (some (ad3 b o)) es.length cap ∧ x'.ow b = some .res ∧ es.length ≤ cap ∧ Arr (freeB x') w' b o cap z es := L.res
            have hb := hnew x' w' L.fr b q2
            have hA : ∀ res, Arr (freeB (x.back x' w.heap.size res)) w' b of cap z es := fun res => by
              cases hsh : sh with
              | false => exact A.mono (hfree x' w' res L.fr hsh) (fun _ _ h => h) (fun _ _ _ h => h)
              | true =>
                rw [hsh] at hq
                simp only [Bool.true_and, Bool.not_eq_true', Bool.not_eq_false] at hq
                refine ⟨A.pos, A.room, A.wid, A.cel, fun i e he j c hc => ?_⟩
                obtain ⟨v, h1, h2⟩ := A.els i e he j c hc
                exact ⟨v, h1, h2.plain (plain_cell (plains_mem hq (List.mem_of_getElem? he)) (List.mem_of_getElem? hc))⟩
            cases own
            · obtain ⟨R2, F2⟩ := R.backPure (dep := dep) L.fr L.rel none
              refine ⟨_, R2.put hk rfl (l := none) (.d _ _ _ ((hA none).rd ?_ rfl q3)), F2⟩
              simp [freeB, Cx.back, hb, q2]
            · obtain ⟨R2, F2⟩ := R.backPure (dep := dep) L.fr L.rel (some .res)
              have how : (x.back x' w.heap.size (some .res)).ow b = some .res := by simp [Cx.back, hb, q2]
              exact ⟨_, R2.place hk how (hA _) rfl q3, F2.trans (Fr.giveRes how _)⟩
        · cases hl
      · unfold landC at hu
        split at hu
        · rename_i g ys _
          split at hu
          · cases hu
          · rename_i hq
            cases hu
            simp only [Bool.or_eq_true, not_or, Bool.not_eq_true] at hq
            obtain ⟨hsh, hys⟩ := hq
            obtain ⟨es, hes⟩ : ∃ es, allD ys = some es := by
              cases h : allD ys with
              | none => rw [h] at hys; cases hys
              | some es => exact ⟨es, rfl⟩
            have := allD_spec hes
            subst this
            refine hdoes.walks hrun (fun v w' hex => ?_)
            obtain ⟨x', L⟩ := hex
            rw [hd]
            obtain ⟨R2, F2⟩ := R.backPure (dep := dep) L.fr L.rel none
            have hr : RdV x' (get0 m) (conc x' act0 w') w' none v (.clo g [] (es.map .d)) := L.res
            cases hr with
            | clo _ _ va vb _ _ hl1 hl2 h1 h2 =>
            have hva : va = [] := by simpa using hl1
            subst hva
            refine ⟨_, R2.put hk rfl (l := none) (.clo none g [] vb [] (es.map .d) rfl hl2 (fun i v y h => by simp at h) (fun i u y e1 e2 => ?_)), F2⟩
            have := h2 i u y e1 e2
            rw [List.getElem?_map, Option.map_eq_some_iff] at e2
            obtain ⟨e, _, rfl⟩ := e2
            exact .d _ _ _ ((RdV.d_inv this).mono (hfree x' w' none L.fr hsh))
        · cases hu
    · cases hu
  · cases hu

end
end Go.Ev
