/- The evaluator of Go code and its proofs, part 5. Own work. -/
import Derived.Test.YtnabebdceaoiiaaGreatDoorL4
import Derived.Laws.IdiomStrings
set_option linter.unusedVariables false
set_option linter.unusedSimpArgs false
set_option linter.unusedSectionVars false
/-! EvT -/
/- make, variables, boxes. Own work. -/
namespace Go.Ev
open Go

section
variable {P : Program} {cfg : Cfg} {x : Cx} {N dep : Nat} {s : Get} {a : Act} {w : World}

theorem na {n : Int} (h0 : 0 ≤ n) (h1 : n ≤ 2 ^ 62) : IntKind.i64.wrap n = n := by
  have e : IntKind.i64.wrap n = (if n % 18446744073709551616 ≥ 9223372036854775808 then n % 18446744073709551616 - 18446744073709551616 else n % 18446744073709551616) := by
    simp [IntKind.wrap, IntKind.bits, IntKind.signed]
  rw [e]
  have : (2 : Int) ^ 62 = 4611686018427387904 := by decide
  split <;> omega

theorem sim_mkS (R : Rel cfg x N s a w) {o : Oper} {t e : TypeId} {L C : Operand} (ho : o.op = .makeSlice t L C) {k : Nat} (hd : o.dst = some k) (hk : k < N) (ht : P.underlying t = some (.slice e)) {i : TypeInfo} (hi : P.info? e = some i)
    {zd : D} (hzd : zeroC P e = some zd) {l c : IOpd} (hL : cOpd L = some l) (hC : cOpd C = some c) (hz0 : i.size ≠ 0) {n m : Int} (hn : (dat cfg s l).bind D.toInt? = some n) (hm : (dat cfg s c).bind D.toInt? = some m)
    (h : 0 ≤ n ∧ n ≤ m ∧ m ≤ ax ∧ i.bytes ≤ 2048 ∧ zd.cells.length = i.size ∧ zd.storable) : Goes P cfg x N dep (updG s (put1 o.dst (.own true i.size (List.replicate n.toNat zd)))) a w o := by
  obtain ⟨h1, h2, h3, h4, h5, h6⟩ := h
  obtain ⟨kl, el⟩ := dr R hL hn
  obtain ⟨kc, ec⟩ := dr R hC hm
  have hmost : (ax : Int) = 68719476736 := by decide
  have p62 : (2 : Int) ^ 62 = 4611686018427387904 := by decide
  have p48 : (2 : Int) ^ 48 = 281474976710656 := by decide
  simp only [zeroC, Option.bind_eq_some_iff] at hzd
  obtain ⟨zv, ⟨i', hi', hz1⟩, hz2⟩ := hzd
  rw [hi] at hi'
  cases hi'
  have hzr := xy (F := freeB x) (w := w) hz2
  obtain ⟨r1, _, _⟩ := hzr.cells h6
  have wn : IntKind.i64.wrap n = n := na h1 (by omega)
  have wm : IntKind.i64.wrap m = m := na (by omega) (by omega)
  have hbm : (i.bytes : Int) * m ≤ 281474976710656 := by
    have : (i.bytes : Int) * m ≤ 2048 * m := Int.mul_le_mul_of_nonneg_right (by omega) (by omega)
    omega
  have hrun : (execOp a.eval o).run P w = .ok (.value (.slice (some (ad3 w.heap.size 0)) n.toNat m.toNat)) (w.alloc (.cells ((Array.range (m.toNat * i.size)).map (zv.cells[· % zv.cells.size]!)) e)) := by
    have c2 : ((decide (m < 0) || decide ((i.bytes : Int) * m > 2 ^ 48) || decide (n < 0) || decide (n > m)) = true) = False := by
      simp only [Bool.or_eq_true, decide_eq_true_eq, eq_iff_iff, iff_false]
      omega
    simp only [execOp, ho, el, ec, Instr.makeSlice, asInt, asIntOf, Sem.run_bind, run_underlying ht, Result.andThen_ok, Sem.run_pure, typeInfo, run_program, hi, wn, wm, c2, if_false, run_askRoom, sizeOf]
    by_cases e0 : m.toNat * i.size = 0
    · have e1 : (Array.range (m.toNat * i.size)).map (fun q => (#[] : Array Value)[q % (#[] : Array Value).size]!) = (Array.range (m.toNat * i.size)).map (zv.cells[· % zv.cells.size]!) := by rw [e0]; simp
      rw [if_pos e0]
      simp only [pure_bind, e1]
      rfl
    · rw [if_neg e0]
      simp only [Sem.run_bind, zeroValue, typeInfo, run_program, Result.andThen_ok, hi, hz1, Sem.run_pure]
      rfl
  have hzn := ElsRd.zeros (n := n.toNat) hzr h6 h5 hz0
  refine ⟨_, _, x.give w.heap.size (some (.at (.slot k))), .inl hrun, ?_, Fr.alloc _ _⟩
  rw [hd]
  refine (R.alloc _ (some (.at (.slot k)))).putAt hk (by simp) ?_
  refine .own _ _ _ _ m.toNat i.size true _ (by simp) (by simp) (by omega) (p5 hzn hz0 (by simp; omega) _ (by simp) (fun j v hj => ?_) e _ (by simp) w rfl R)
  rw [Array.getElem?_map] at hj ⊢
  cases hq : (Array.range (n.toNat * i.size))[j]? with
  | none => rw [hq] at hj; cases hj
  | some q =>
    rw [hq] at hj
    have hlt : j < n.toNat * i.size := by simpa using (Array.getElem?_eq_some_iff.1 hq).1
    have hle : n.toNat * i.size ≤ m.toNat * i.size := Nat.mul_le_mul_right _ (by omega)
    rw [Array.getElem?_range, if_pos hlt] at hq
    cases hq
    rw [Array.getElem?_range, if_pos (by omega)]
    exact hj

/-- the cells of a new box, data -/
theorem Rel.addCells {d k : Nat} (hb : x.ow (x.ad d k) = some (.box d k)) : ∀ (cs : List D) (off : Nat) (s : Get) (_ : Rel cfg x N s a w), (off = 0 ∨ (s (.cell ⟨d, k, 0⟩)).isSome) →
    (∀ (j : Nat) c, cs[j]? = some c → w.frozen? (ad3 (x.ad d k) (off + j)) = false ∧ ∃ v, w.cell? (ad3 (x.ad d k) (off + j)) = some v ∧ Rd (freeB x) w v c) →
    Rel cfg x N (updG s (cg d k off (cs.map .d))) a w
  | [], off, s, R, _, _ => R
  | c :: cs, off, s, R, hal, h => by
    obtain ⟨h1, v, h2, h3⟩ := h 0 c rfl
    have R1 := R.addCell (c := ⟨d, k, off⟩) hb hal (by simpa using h1) (v := v) (by simpa using h2) (y := .d c) rfl (l := none) (.d _ _ _ h3)
    refine Rel.addCells hb cs (off + 1) _ R1 (.inr ?_) (fun j c' hj => by
      have := h (j + 1) c' (by simpa using hj)
      rw [show off + (j + 1) = off + 1 + j by omega] at this
      exact this)
    show (if _ then _ else _ : Option V).isSome
    rcases hal with rfl | hal
    · simp
    · split <;> simp [hal]

theorem h8 {d k : Nat} : ∀ (vs : List V) (off : Nat), ∀ p ∈ cg d k off vs, ∃ i, p.1 = .cell ⟨d, k, off + i⟩
  | [], _, p, h => by simp [cg] at h
  | v :: vs, off, p, h => by
    rcases List.mem_cons.1 h with rfl | h
    · exact ⟨0, rfl⟩
    · obtain ⟨i, hi⟩ := h8 vs (off + 1) p h
      exact ⟨i + 1, by rw [hi]; congr 2; omega⟩

theorem xm {d k : Nat} (s : Get) (v : V) (vs : List V) : (updG s (cg d k 0 (v :: vs)) (.cell ⟨d, k, 0⟩)).isSome := by
  have h1 : cg d k 0 (v :: vs) = (.cell ⟨d, k, 0⟩, v) :: cg d k 1 vs := rfl
  rw [h1, aq, jk _ _ (fun p hp => by
    obtain ⟨i, hi⟩ := h8 vs 1 p hp
    rw [hi]; simp)]
  simp

theorem nc (s : Get) (l : Loc) (y : V) (u : List (Loc × V)) (h : ∀ p ∈ u, p.1 ≠ l) (l' : Loc) : updG s ((l, y) :: u) l' = updG (updG s u) [(l, y)] l' := qn u s y h l'

/-- a new variable, its cells data -/
theorem newBox (R : Rel cfg x N s a w) {o : Oper} {k : Nat} (hd : o.dst = some k) (hk : k < N) (h0 : s (.cell ⟨dep, k, 0⟩) = none) {v : Value} {y : D} (hr : Rd (freeB x) w v y) (hst : y.storable = true) (hne : y.cells ≠ []) (t : TypeId)
    (hrun : (execOp a.eval o).run P w = .ok (.value (.pointer (some (ad3 w.heap.size 0)))) (w.alloc (.cells v.cells t))) :
    Goes P cfg x N dep (updG s ((.slot k, .ref dep k 0) :: cg dep k 0 (y.cells.map .d))) a w o := by
  obtain ⟨c1, c2, c3⟩ := hr.cells hst
  have R1 := (R.alloc (.cells v.cells t) (some (.box dep k))).lay h0 w.heap.size
  have hmono : ∀ b o u, freeB x b → w.cell? (ad3 b o) = some u → freeB ((x.give w.heap.size (some (.box dep k))).lay dep k w.heap.size) b ∧ (w.alloc (.cells v.cells t)).cell? (ad3 b o) = some u := fun b o u h1 h2 => by
    have hlt := World.block_lt_of_cell? _ _ h2
    refine ⟨?_, by rw [World.cell?_alloc_lt _ _ _ hlt]; exact h2⟩
    show (x.give w.heap.size (some (.box dep k))).ow b = none
    rw [Cx.give_ne]; · exact h1
    simp at hlt; omega
  have R2 := Rel.addCells (d := dep) (k := k) (by simp) y.cells 0 _ R1 (.inl rfl) (fun j c hj => by
    simp only [Nat.zero_add, Cx.lay_same]
    refine ⟨World.frozen?_alloc_new _ _ _ _, ?_⟩
    have hjl : j < v.cells.size := by rw [c1]; exact (List.getElem?_eq_some_iff.1 hj).1
    refine ⟨v.cells[j], by rw [World.cell?_alloc_new]; simp [hjl], ?_⟩
    exact (c3 j _ c (Array.getElem?_eq_getElem hjl) hj).1.mono hmono)
  have hcons : ∃ c cs, y.cells = c :: cs := by cases h : y.cells with | nil => exact absurd h hne | cons c cs => exact ⟨c, cs, rfl⟩
  obtain ⟨c, cs, hcs⟩ := hcons
  have R3 := R2.put hk (v := .pointer (some (ad3 w.heap.size 0))) (y := .ref dep k 0) rfl (l := none) (by
    have := RdV.ref (x := (x.give w.heap.size (some (.box dep k))).lay dep k w.heap.size) (s := updG s (cg dep k 0 (y.cells.map .d))) (cv := conc ((x.give w.heap.size (some (.box dep k))).lay dep k w.heap.size) a (w.alloc (.cells v.cells t)))
      (w := w.alloc (.cells v.cells t)) none dep k 0 (by rw [hcs]; exact xm s _ _)
    rwa [Cx.lay_same] at this)
  refine ⟨_, _, (x.give w.heap.size (some (.box dep k))).lay dep k w.heap.size, .inl hrun, ?_, (Fr.alloc _ _).trans (Fr.lay (Nat.le_refl _))⟩
  rw [hd]
  refine R3.congr (nc s _ _ _ (fun p hp => ?_))
  obtain ⟨i, hi⟩ := h8 _ 0 p hp
  rw [hi]; simp

theorem aky (R : Rel cfg x N s a w) {o : Oper} {t : TypeId} (ho : o.op = .alloc t) {k : Nat} (hd : o.dst = some k) (hk : k < N) {z : D} (hz : zeroD P t = some z) (hne : z.cells ≠ []) (hst : z.storable = true)
    (h0 : s (.cell ⟨dep, k, 0⟩) = none) : Goes P cfg x N dep (updG s ((.slot k, .ref dep k 0) :: cg dep k 0 (z.cells.map .d))) a w o := by
  simp only [zeroD, Option.bind_eq_some_iff] at hz
  obtain ⟨zv, ⟨i, hi, hz1⟩, hz2⟩ := hz
  refine newBox R hd hk h0 (ff hz2) hst hne t ?_
  simp only [execOp, ho, Instr.alloc, Sem.run_bind, zeroValue, typeInfo, run_program, Result.andThen_ok, hi, Sem.run_pure, hz1]
  rfl

theorem sim_box (R : Rel cfg x N s a w) {o : Oper} {t : TypeId} {X : Operand} (ho : o.op = .box t X) {k : Nat} (hd : o.dst = some k) (hk : k < N) {p : IOpd} (hX : cOpd X = some p) {n : Nat} {y : V} (hy : val cfg s p = some y)
    {u : List (Loc × V)} (hu : evBox dep s k n y = some u) : Goes P cfg x N dep (updG s u) a w o := by
  obtain ⟨l0, hr, hl0⟩ := ap R hX hy
  unfold evBox at hu
  split at hu
  · cases hu
  · rename_i hal
    have h0 : s (.cell ⟨dep, k, 0⟩) = none := by simpa using hal
    have hrun : ∀ v, a.eval X = v → (execOp a.eval o).run P w = .ok (.value (.pointer (some (ad3 w.heap.size 0)))) (w.alloc (.cells v.cells t)) := fun v e => by
      simp only [execOp, ho, e, Instr.box]
      rfl
    have one : ∀ (v : Value) (yv : V), a.eval X = v → v.oneCell' = true → yv.isOwn = false → RdV x s (conc x a w) w none v yv →
        ∃ x', Rel cfg x' N (updG s [(.slot k, .ref dep k 0), (.cell ⟨dep, k, 0⟩, yv)]) (a.put (some k) (.pointer (some (ad3 w.heap.size 0)))) (w.alloc (.cells v.cells t)) ∧ Fr dep x x' w (w.alloc (.cells v.cells t)) ∧
          x'.ad dep k = w.heap.size ∧ (∀ b, b < w.heap.size → x'.ow b = x.ow b) := by
      intro v yv e h1 hn hrv
      have hvc : v.cells = #[v] := by cases v <;> first | rfl | simp [Value.oneCell'] at h1
      have R1 := (R.alloc (.cells v.cells t) (some (.box dep k))).lay h0 w.heap.size
      have hlt : ∀ b o' u, w.cell? (ad3 b o') = some u → b ≠ w.heap.size := fun b o' u h e => by have := World.block_lt_of_cell? _ _ h; simp at this; omega
      have hrv' : RdV ((x.give w.heap.size (some (.box dep k))).lay dep k w.heap.size) s (conc ((x.give w.heap.size (some (.box dep k))).lay dep k w.heap.size) a (w.alloc (.cells v.cells t))) (w.alloc (.cells v.cells t)) none v yv := by
        refine hrv.mono (fun b o' u h2 h3 => ⟨?_, ?_⟩) (fun b o' u h2 h3 => ⟨⟨u, ?_⟩, ?_⟩) (fun l' z es hs => ⟨es, hs, rfl, fun b o' L C hc => ⟨L, C, ?_⟩⟩) (fun d j hj => ⟨hj, ?_⟩) (by simp)
        · show (x.give w.heap.size (some (.box dep k))).ow b = none
          rw [Cx.give_ne _ _ (hlt b o' u h3)]; exact h2
        · rw [World.cell?_alloc_old _ _ _ (hlt b o' u h3)]; exact h3
        · rw [World.cell?_alloc_old _ _ _ (hlt b o' u h2)]; exact h2
        · rw [World.frozen?_alloc_old _ _ _ (hlt b o' u h2)]; exact h3
        · cases l' with
          | slot j => exact hc
          | cell c =>
            have hne : ¬ (c.d = dep ∧ c.k = k) := fun e => by
              obtain ⟨_, q, _⟩ := R.box c _ hs
              rw [e.1, e.2, h0] at q; simp at q
            have hc' : w.cell? (ad3 (x.ad c.d c.k) c.off) = some (.slice (some (ad3 b o')) L C) := hc
            show (w.alloc _).cell? (ad3 (((x.give w.heap.size (some (.box dep k))).lay dep k w.heap.size).ad c.d c.k) c.off) = _
            rw [Cx.lay_ne _ hne, Cx.give_ad, World.cell?_alloc_old _ _ _ (hlt _ _ _ hc')]
            exact hc'
        · refine Cx.lay_ne _ (fun e => ?_)
          rw [e.1, e.2, h0] at hj; simp at hj
      have R2 := R1.addCell (c := ⟨dep, k, 0⟩) (by simp) (.inl rfl) (by rw [Cx.lay_same]; exact World.frozen?_alloc_new w v.cells t 0) (v := v) (by rw [Cx.lay_same]; rw [show ad3 w.heap.size 0 = ⟨w.heap.size, 0, none⟩ from rfl, World.cell?_alloc_new, hvc]; rfl) hn hrv'
      have R3 := R2.put hk (v := .pointer (some (ad3 w.heap.size 0))) (y := .ref dep k 0) rfl (l := none) (by
        have := RdV.ref (x := (x.give w.heap.size (some (.box dep k))).lay dep k w.heap.size) (s := updG s [(.cell ⟨dep, k, 0⟩, yv)]) (cv := conc ((x.give w.heap.size (some (.box dep k))).lay dep k w.heap.size) a (w.alloc (.cells v.cells t)))
          (w := w.alloc (.cells v.cells t)) none dep k 0 (by simp [ao])
        rwa [Cx.lay_same] at this)
      exact ⟨_, R3.congr (nc s _ _ _ (by simp)), (Fr.alloc _ _).trans (Fr.lay (Nat.le_refl _)), by simp, fun b hb => Cx.give_ne _ _ (by omega)⟩
    split at hu
    · rename_i y'
      split at hu
      · rename_i hc
        obtain ⟨h1, h2, h3⟩ := hc
        cases hu
        exact newBox R hd hk h0 hr.d_inv h3 (by intro e; rw [e] at h1; simp at h1; omega) t (hrun _ rfl)
      · cases hu
    · split at hu
      · rename_i hnd hc
        obtain ⟨h1, h2⟩ := hc
        cases hu
        have hn : y.isOwn = false := by cases y <;> first | rfl | simp [V.plainV] at h2
        have hone : (a.eval X).oneCell' = true := by
          generalize a.eval X = v at hr
          cases hr <;> first | rfl | (simp [V.plainV] at h2; done) | exact absurd rfl (hnd _) | exact (hnd _ rfl).elim
        obtain ⟨x', R', hF, _⟩ := one _ y rfl hone hn (hr.reloc hn)
        refine ⟨_, _, x', .inl (hrun _ rfl), ?_, hF⟩
        rw [hd]
        exact R'
      · cases hu

end
end Go.Ev

/-! EvU -/
/- Stores and copies. Own work. -/
namespace Go.Ev
open Go

section
variable {P : Program} {cfg : Cfg} {x : Cx} {N dep : Nat} {s : Get} {a : Act} {w : World}

theorem gw {o : Oper} {t : TypeId} {A X : Operand} (ho : o.op = .store t A X) {b o' : Nat} (hA : a.eval A = .pointer (some (ad3 b o'))) {v : Value} (hX : a.eval X = v) {n : Nat} (hn : sizeD P t = some n) (hsz : v.cells.size = n)
    (hc : ∀ j, j < n → (w.cell? ⟨b, o' + j, none⟩).isSome = true) (hf : ∀ j, j < n → w.frozen? ⟨b, o' + j, none⟩ = false) (h1 : ∀ (j : Nat) u, v.cells[j]? = some u → u.oneCell' = true) :
    (execOp a.eval o).run P w = .ok .skip (w.setCells b o' v.cells.toList) := by
  have hl : v.cells.toList.length = n := by simpa using hsz
  have hst := run_storeCells_cells (P := P) b o' v.cells.toList 0 w (by rw [hl]; simpa using hc) (by rw [hl]; simpa using hf) (fun u hu => by
    obtain ⟨j, hj⟩ := List.getElem?_of_mem hu
    exact h1 j u (by simpa using hj))
  simp only [Nat.add_zero] at hst
  simp only [execOp, ho, Instr.storeAt, Instr.sureAddr, hA, hX, Sem.run_bind, Sem.run_pure, Result.andThen_ok, storeVar, aw hn, hsz, ne_eq, not_true_eq_false, if_false]
  rw [hst]
  rfl

theorem o9 : ∀ (n : Nat) (d k off : Nat), alive s d k off n = true → ∀ j, j < n → (s (.cell ⟨d, k, off + j⟩)).isSome = true
  | 0, _, _, _, _, j, h => by omega
  | n + 1, d, k, off, h, j, hj => by
    simp only [alive, Bool.and_eq_true] at h
    cases j with
    | zero => exact h.1
    | succ j =>
      have := o9 n d k (off + 1) h.2 j (by omega)
      rw [show off + (j + 1) = off + 1 + j by omega]
      exact this

/-- cells of a box, data stored one behind the other -/
theorem Rel.setBoxes {d k : Nat} : ∀ (vs : List Value) (cs : List D) (off : Nat) (s : Get) (w : World) (_ : Rel cfg x N s a w), vs.length = cs.length → (∀ j, j < cs.length → (s (.cell ⟨d, k, off + j⟩)).isSome = true) →
    (∀ (j : Nat) v c, vs[j]? = some v → cs[j]? = some c → Rd (freeB x) w v c) → x.ow (x.ad d k) = some (.box d k) →
    Rel cfg x N (updG s (cg d k off (cs.map .d))) a (w.setCells (x.ad d k) off vs)
  | [], [], off, s, w, R, _, _, _, _ => R
  | v :: vs, c :: cs, off, s, w, R, hl, hal, h, hb => by
    obtain ⟨y0, hy0⟩ := Option.isSome_iff_exists.1 (hal 0 (by simp))
    have R1 := R.setBox (c := ⟨d, k, off⟩) (by simpa using hy0) (v := v) (y := .d c) rfl (l := none) (.d _ _ _ (h 0 v c rfl rfl))
    have hw := bz w (x.ad d k) off v
    refine Rel.setBoxes vs cs (off + 1) _ _ R1 (by simpa using hl) (fun j hj => ?_) (fun j v' c' h1 h2 => ?_) hb
    · show (if _ then _ else _ : Option V).isSome
      split
      · rfl
      · have := hal (j + 1) (by simp; omega)
        rw [show off + 1 + j = off + (j + 1) by omega]
        exact this
    · refine (h (j + 1) v' c' (by simpa using h1) (by simpa using h2)).mono (fun b o u g1 g2 => ⟨g1, ?_⟩)
      show (w.setCell (ad3 (x.ad d k) off) v).cell? (ad3 b o) = some u
      rw [hw.cell (fun e => by rw [freeB, e, hb] at g1; cases g1)]
      exact g2
  | [], _ :: _, _, _, _, _, hl, _, _, _ => by simp at hl
  | _ :: _, [], _, _, _, _, hl, _, _, _ => by simp at hl

/-- a cell of a struct: what it is while it lies in slot j -/
def xw (x : Cx) (w : World) (l : Loc) (v : Value) : V → Prop
  | .own _ z es => ∃ b o cap, v = .slice (some (ad3 b o)) es.length cap ∧ es.length ≤ cap ∧ x.ow b = some (.at l) ∧ Arr (freeB x) w b o cap z es
  | .d c => Rd (freeB x) w v c ∧ c.isCell = true
  | _ => False

theorem Rel.relabels {d k j : Nat} (hjN : j < N) : ∀ (ys : List V) (vs : List Value) (off : Nat) {x : Cx} (_ : Rel cfg x N s a w) (_ : vs.length = ys.length) (_ : ∀ v, s (.slot j) = some v → v.isOwn = false)
    (_ : ∀ (m : Nat) v y, vs[m]? = some v → ys[m]? = some y → xw x w (.slot j) v y)
    (_ : ∀ (i j : Nat) (p q : Addr) (L C L' C' : Nat) (n n' : Bool) (z z' : Nat) (es es' : List D), i ≠ j → ys[i]? = some (.own n z es) → ys[j]? = some (.own n' z' es') →
        vs[i]? = some (.slice (some p) L C) → vs[j]? = some (.slice (some q) L' C') → p.block ≠ q.block),
    ∃ x', Rel cfg x' N s a w ∧ Fr dep x x' w w ∧ (∀ b, x.ow b ≠ some (.at (.slot j)) → x'.ow b = x.ow b) ∧ x'.ad = x.ad ∧ ∀ (m : Nat) v y, vs[m]? = some v → ys[m]? = some y → xw x' w (.cell ⟨d, k, off + m⟩) v y
  | [], vs, off, x, R, hl, hj, h, hd => ⟨x, R, .refl _ _ _, fun _ _ => rfl, rfl, fun m v y _ e => by simp at e⟩
  | y0 :: ys, [], off, x, R, hl, hj, h, hd => by simp at hl
  | y0 :: ys, v0 :: vs, off, x, R, hl, hj, h, hd => by
    have h0 := h 0 v0 y0 rfl rfl
    have hd' : ∀ (i j : Nat) (p q : Addr) (L C L' C' : Nat) (n n' : Bool) (z z' : Nat) (es es' : List D), i ≠ j → ys[i]? = some (.own n z es) → ys[j]? = some (.own n' z' es') →
        vs[i]? = some (.slice (some p) L C) → vs[j]? = some (.slice (some q) L' C') → p.block ≠ q.block := fun i j p q L C L' C' n n' z z' es es' hne e1 e2 e3 e4 =>
      hd (i + 1) (j + 1) p q L C L' C' n n' z z' es es' (by omega) (by simpa using e1) (by simpa using e2) (by simpa using e3) (by simpa using e4)
    cases y0 with
    | own nw z es =>
      obtain ⟨b, o, cap, rfl, q2, q3, q4⟩ := h0
      have R1 := R.relabel q3 hj (fun k' e => by cases e; exact hjN) (.cell ⟨d, k, off⟩)
      have F1 : Fr dep x (x.give b (some (.at (.cell ⟨d, k, off⟩)))) w w := Fr.give q3 _
      obtain ⟨x', R2, F2, g1, g2, g3⟩ := Rel.relabels hjN ys vs (off + 1) R1 (by simpa using hl) hj (fun m v y e1 e2 => by
        have := h (m + 1) v y (by simpa using e1) (by simpa using e2)
        cases y with
        | own nw' z' es' =>
          obtain ⟨b', o', cap', rfl, w2, w3, w4⟩ := this
          have hne := hd 0 (m + 1) (ad3 b o) (ad3 b' o') _ _ _ _ nw nw' z z' es es' (by omega) rfl (by simpa using e2) rfl (by simpa using e1)
          exact ⟨b', o', cap', rfl, w2, by rw [Cx.give_ne _ _ (fun e => hne e.symm)]; exact w3, w4.mono (fun b o u hb hu => F1.frees hb hu) (fun _ _ h => h) (fun _ _ _ h => h)⟩
        | d c => exact ⟨this.1.mono (fun b o u hb hu => F1.frees hb hu), this.2⟩
        | _ => exact this) hd'
      have hF := F1.trans F2
      refine ⟨x', R2, hF, fun b' hb => ?_, g2, fun m v y e1 e2 => ?_⟩
      · have hne : b' ≠ b := fun e => hb (e ▸ q3)
        rw [g1 b' (by rw [Cx.give_ne _ _ hne]; exact hb), Cx.give_ne _ _ hne]
      · cases m with
        | zero =>
          simp only [List.getElem?_cons_zero, Option.some.injEq] at e1 e2
          subst e1; subst e2
          refine ⟨b, o, cap, rfl, q2, ?_, q4.mono (fun b o u hb hu => hF.frees hb hu) (fun _ _ h => h) (fun _ _ _ h => h)⟩
          rw [g1 b (by simp)]; simp
        | succ m =>
          have := g3 m v y (by simpa using e1) (by simpa using e2)
          rw [show off + (m + 1) = off + 1 + m by omega]
          exact this
    | d c =>
      obtain ⟨x', R2, F2, g1, g2, g3⟩ := Rel.relabels hjN ys vs (off + 1) R (by simpa using hl) hj (fun m v y e1 e2 => h (m + 1) v y (by simpa using e1) (by simpa using e2)) hd'
      refine ⟨x', R2, F2, g1, g2, fun m v y e1 e2 => ?_⟩
      cases m with
      | zero =>
        simp only [List.getElem?_cons_zero, Option.some.injEq] at e1 e2
        subst e1; subst e2
        exact ⟨h0.1.mono (fun b o u hb hu => F2.frees hb hu), h0.2⟩
      | succ m =>
        have := g3 m v y (by simpa using e1) (by simpa using e2)
        rw [show off + (m + 1) = off + 1 + m by omega]
        exact this
    | _ => exact h0.elim

theorem Rel.setRec {d k : Nat} : ∀ (vs : List Value) (ys : List V) (off : Nat) (s : Get) (w : World) (_ : Rel cfg x N s a w), vs.length = ys.length → (∀ j, j < ys.length → (s (.cell ⟨d, k, off + j⟩)).isSome = true) →
    (∀ (m : Nat) v y, vs[m]? = some v → ys[m]? = some y → xw x w (.cell ⟨d, k, off + m⟩) v y) → x.ow (x.ad d k) = some (.box d k) → ∀ u, du d k off ys = some u →
    Rel cfg x N (updG s u) a (w.setCells (x.ad d k) off vs)
  | [], [], off, s, w, R, _, _, _, _, u, hu => by cases hu; exact R
  | v :: vs, y :: ys, off, s, w, R, hl, hal, h, hb, u, hu => by
    obtain ⟨y0, hy0⟩ := Option.isSome_iff_exists.1 (hal 0 (by simp))
    have hw := bz w (x.ad d k) off v
    have hfr : ∀ b o u, freeB x b → w.cell? (ad3 b o) = some u → freeB x b ∧ (w.setCell (ad3 (x.ad d k) off) v).cell? (ad3 b o) = some u := fun b o u g1 g2 => ⟨g1, by
      rw [hw.cell (fun e => by rw [freeB, e, hb] at g1; cases g1)]; exact g2⟩
    have hAt : ∀ (l : Loc) b o cap z es, x.ow b = some (.at l) → Arr (freeB x) w b o cap z es → Arr (freeB x) (w.setCell (ad3 (x.ad d k) off) v) b o cap z es := fun l b o cap z es g1 g2 => by
      have hne : b ≠ x.ad d k := fun e => by rw [e, hb] at g1; cases g1
      exact g2.mono hfr (fun o u g => by rw [hw.cell hne]; exact g) (fun o u _ g => by rw [hw.frozen hne]; exact g)
    have htl : ∀ (m : Nat) v' y', vs[m]? = some v' → ys[m]? = some y' → xw x (w.setCell (ad3 (x.ad d k) off) v) (.cell ⟨d, k, off + 1 + m⟩) v' y' := fun m v' y' e1 e2 => by
      have := h (m + 1) v' y' (by simpa using e1) (by simpa using e2)
      rw [show off + (m + 1) = off + 1 + m by omega] at this
      cases y' with
      | own nw z es => obtain ⟨b, o, cap, rfl, w2, w3, w4⟩ := this; exact ⟨b, o, cap, rfl, w2, w3, hAt _ _ _ _ _ _ w3 w4⟩
      | d c => exact ⟨this.1.mono hfr, this.2⟩
      | _ => exact this
    have hal' : ∀ (q : V) j, j < ys.length → (updG s [(.cell ⟨d, k, off⟩, q)] (.cell ⟨d, k, off + 1 + j⟩)).isSome = true := fun q j hj => by
      show (if _ then _ else _ : Option V).isSome
      split
      · rfl
      · have := hal (j + 1) (by simp; omega)
        rw [show off + 1 + j = off + (j + 1) by omega]
        exact this
    have h0 := h 0 v y rfl rfl
    cases y with
    | own nw z es =>
      obtain ⟨b, o, cap, rfl, w2, w3, w4⟩ := h0
      simp only [Nat.add_zero] at w3
      simp only [du, Option.map_eq_some_iff] at hu
      obtain ⟨u', hu', rfl⟩ := hu
      have R1 := R.setBox (c := ⟨d, k, off⟩) (by simpa using hy0) (v := .slice (some (ad3 b o)) es.length cap) (y := .junk) rfl (l := none) (.junk _ _)
      have hconc : conc x a (w.setCell (ad3 (x.ad d k) off) (.slice (some (ad3 b o)) es.length cap)) (.cell ⟨d, k, off⟩) = some (.slice (some (ad3 b o)) es.length cap) := by
        obtain ⟨u0, hu0, _⟩ := R.locs _ _ hy0
        exact World.cell?_setCell_same _ _ _ hu0
      have R2 := R1.claim (l1 := .cell ⟨d, k, off⟩) (y1 := .junk) (by simp [aq]) w3 hconc (hAt _ _ _ _ _ _ w3 w4) rfl w2
      have R3 : Rel cfg x N (updG s [(.cell ⟨d, k, off⟩, .own true z es)]) a (w.setCell (ad3 (x.ad d k) off) (.slice (some (ad3 b o)) es.length cap)) := R2.congr (fun l => by
        simp only [aq, ij]; split <;> rfl)
      exact Rel.setRec vs ys (off + 1) _ _ R3 (by simpa using hl) (hal' _) htl hb u' hu'
    | d c =>
      simp only [du] at hu
      split at hu
      · simp only [Option.map_eq_some_iff] at hu
        obtain ⟨u', hu', rfl⟩ := hu
        have R1 := R.setBox (c := ⟨d, k, off⟩) (by simpa using hy0) (v := v) (y := .d c) rfl (l := none) (.d _ _ _ h0.1)
        exact Rel.setRec vs ys (off + 1) _ _ R1 (by simpa using hl) (hal' _) htl hb u' hu'
      · cases hu
    | _ => exact h0.elim
  | [], _ :: _, _, _, _, _, hl, _, _, _, _, _ => by simp at hl
  | _ :: _, [], _, _, _, _, hl, _, _, _, _, _ => by simp at hl

theorem jy {d k : Nat} : ∀ {ys : List V} {off : Nat} {u : List (Loc × V)}, du d k off ys = some u → ∀ y ∈ ys, (∃ c, y = .d c ∧ c.isCell = true) ∨ ∃ nw z es, y = .own nw z es
  | [], _, _, _, y, hy => by simp at hy
  | .d c :: r, off, u, h, y, hy => by
    simp only [du] at h
    split at h
    · rename_i hc
      simp only [Option.map_eq_some_iff] at h
      obtain ⟨u', h, _⟩ := h
      rcases List.mem_cons.1 hy with rfl | hy
      · exact .inl ⟨c, rfl, hc⟩
      · exact jy h y hy
    · cases h
  | .own nw z es :: r, off, u, h, y, hy => by
    simp only [du, Option.map_eq_some_iff] at h
    obtain ⟨u', h, _⟩ := h
    rcases List.mem_cons.1 hy with rfl | hy
    · exact .inr ⟨nw, z, es, rfl⟩
    · exact jy h y hy
  | .bor _ _ _ :: _, _, _, h, _, _ | .bref _ _ _ :: _, _, _, h, _, _ | .iptr _ _ :: _, _, _, h, _, _ | .ref _ _ _ :: _, _, _, h, _, _ | .clo _ _ _ :: _, _, _, h, _, _
  | .ifc _ _ :: _, _, _, h, _, _ | .vec _ :: _, _, _, h, _, _ | .vref _ :: _, _, _, h, _, _ | .rcd _ :: _, _, _, h, _, _ | .junk :: _, _, _, h, _, _ => by cases h

theorem Fr.setBoxes {d k : Nat} (hb : x.ow (x.ad d k) = some (.box d k)) (o : Nat) (vs : List Value) : Fr dep x x w (w.setCells (x.ad d k) o vs) :=
  ⟨by rw [er]; exact Nat.le_refl _, fun b' _ h => ⟨da _ _ _ _ (fun e => by rw [e, hb] at h; simp at h), rfl⟩, fun _ _ _ => rfl, g7 _ _ _ _, (br _ _ _ _).room, rfl⟩

theorem cz {s' : Get} {o : Oper} {x' : Cx} {w' : World} (hd : o.dst = none) (hrun : (execOp a.eval o).run P w = .ok .skip w') (R : Rel cfg x' N s' a w') (hF : Fr dep x x' w w') : Goes P cfg x N dep s' a w o :=
  ⟨undef, w', x', .inr ⟨hrun, rfl⟩, by rw [hd]; exact R, hF⟩

/-- an element of the call's own array with some cells turned -/
theorem x8 {e e' : D} {off : Nat} {cs : List D} (h : e.setAt off cs = some e') (hc : ∀ c ∈ cs, c.isCell = true) (hne : cs ≠ []) (he : ∀ c ∈ e.cells, c.isCell = true) :
    off + cs.length ≤ e.cells.length ∧ e'.cells.length = e.cells.length ∧ ∀ m, e'.cells[m]? = if off ≤ m ∧ m < off + cs.length then cs[m - off]? else e.cells[m]? := by
  unfold D.setAt at h
  split at h
  · rename_i hb
    split at h
    · rename_i es
      cases h
      obtain ⟨g1, g2⟩ := fm cs es off hb
      exact ⟨hb, g1, g2⟩
    · rename_i hna
      have hcells : e.cells = [e] := by cases e <;> first | rfl | exact absurd rfl (hna _)
      rw [hcells] at hb
      simp at hb
      split at h
      · exact absurd rfl hne
      · rename_i c r
        split at h
        · cases h
          simp at hb
          have hr : r = [] := by apply List.eq_nil_of_length_eq_zero; omega
          have ho : off = 0 := by omega
          subst hr; subst ho
          have hec : ∀ d : D, d.isCell = true → d.cells = [d] := fun d h => by cases d <;> first | rfl | simp [D.isCell] at h
          have := hec e' (hc e' (by simp))
          rw [this, hcells]
          refine ⟨by simp, rfl, fun m => ?_⟩
          cases m with
          | zero => simp
          | succ m => simp
        · cases h
  · cases h

theorem akl (R : Rel cfg x N s a w) {o : Oper} {t : TypeId} {A X : Operand} (ho : o.op = .store t A X) (hd : o.dst = none) {n : Nat} (hn : sizeD P t = some n) {p q : IOpd} (hA : cOpd A = some p) (hX : cOpd X = some q) {ya yx : V} (hya : val cfg s p = some ya) (hyx : val cfg s q = some yx)
    {u : List (Loc × V)} (hu : bd s n ya q yx = some u) : Goes P cfg x N dep (updG s u) a w o := by
  obtain ⟨la, hra, _⟩ := ap R hA hya
  obtain ⟨lx, hrx, hlx⟩ := ap R hX hyx
  generalize hva : a.eval A = va at hra
  unfold bd at hu
  split at hu
  · -- a box
    rename_i d k off
    split at hu
    · rename_i hal
      have hsp := o9 n d k off hal
      cases hra with
      | ref _ _ _ _ h00 =>
      have hbx : ∀ j, j < n → x.ow (x.ad d k) = some (.box d k) ∧ w.frozen? (ad3 (x.ad d k) (off + j)) = false ∧ (w.cell? (ad3 (x.ad d k) (off + j))).isSome = true := fun j hj => by
        obtain ⟨y0, hy0⟩ := Option.isSome_iff_exists.1 (hsp j hj)
        obtain ⟨q1, q2, q3⟩ := R.box _ _ hy0
        obtain ⟨u0, hu0, _⟩ := R.locs _ _ hy0
        refine ⟨q1, q3, ?_⟩
        have : w.cell? (ad3 (x.ad d k) (off + j)) = some u0 := hu0
        rw [this]; rfl
      have hrun : ∀ v, a.eval X = v → v.cells.size = n → (∀ (j : Nat) u, v.cells[j]? = some u → u.oneCell' = true) → (execOp a.eval o).run P w = .ok .skip (w.setCells (x.ad d k) off v.cells.toList) := fun v e h1 h2 =>
        gw ho hva e hn h1 (fun j hj => (hbx j hj).2.2) (fun j hj => (hbx j hj).2.1) h2
      have one : ∀ v, a.eval X = v → v.oneCell' = true → n = 1 → (execOp a.eval o).run P w = .ok .skip (w.setCell (ad3 (x.ad d k) off) v) := fun v e h1 h2 => by
        have hvc : v.cells = #[v] := by cases v <;> first | rfl | simp [Value.oneCell'] at h1
        have := hrun v e (by rw [hvc]; simp [h2]) (fun j u hu => by rw [hvc] at hu; cases j with | zero => simp at hu; subst hu; exact h1 | succ j => simp at hu)
        rw [hvc] at this
        exact this
      have hown : ∀ l0 nw z es0 es b o' cap, n = 1 → s l0 = some (.own nw z es0) → x.ow b = some (.at l0) → Arr (freeB x) w b o' cap z es → es.length ≤ cap → a.eval X = .slice (some (ad3 b o')) es.length cap →
          (if Loc.cell ⟨d, k, off⟩ = l0 then some [(l0, V.own true z es)] else some [(.cell ⟨d, k, off⟩, V.own true z es), (l0, .junk)]) = some u → Goes P cfg x N dep (updG s u) a w o := by
        intro l0 nw z es0 es b o' cap h1 h2 h3 h4 h5 h6 h7
        subst h1
        obtain ⟨y0, hy0⟩ := Option.isSome_iff_exists.1 (hsp 0 (by omega))
        have hy0' : s (.cell ⟨d, k, off⟩) = some y0 := hy0
        have hb1 := (hbx 0 (by omega)).1
        have R1 := R.setBox (c := ⟨d, k, off⟩) hy0' (v := .slice (some (ad3 b o')) es.length cap) (y := .junk) rfl (l := none) (.junk _ _)
        have hw := bz w (x.ad d k) off (.slice (some (ad3 b o')) es.length cap)
        have hbne : b ≠ x.ad d k := fun e => by rw [e, hb1] at h3; cases h3
        have hA' : Arr (freeB x) (w.setCell (ad3 (x.ad d k) off) (.slice (some (ad3 b o')) es.length cap)) b o' cap z es := by
          refine h4.mono (fun b2 o2 u g1 g2 => ⟨g1, ?_⟩) (fun o2 u g => by rw [hw.cell hbne]; exact g) (fun o2 u _ g => by rw [hw.frozen hbne]; exact g)
          rw [hw.cell (fun e => by rw [freeB, e, hb1] at g1; cases g1)]; exact g2
        have hconc : conc x a (w.setCell (ad3 (x.ad d k) off) (.slice (some (ad3 b o')) es.length cap)) (.cell ⟨d, k, off⟩) = some (.slice (some (ad3 b o')) es.length cap) := by
          obtain ⟨u0, hu0, _⟩ := R.locs _ _ hy0'
          exact World.cell?_setCell_same _ _ _ hu0
        have hr := one _ h6 rfl rfl
        have hF := Fr.setBox (dep := dep) (w := w) hb1 off (.slice (some (ad3 b o')) es.length cap)
        split at h7
        · rename_i e
          cases h7
          subst e
          have R2 := R1.claim (l1 := .cell ⟨d, k, off⟩) (y1 := .junk) (by simp [aq]) h3 hconc hA' rfl h5
          refine cz hd hr (R2.congr (fun l => ?_)) hF
          simp only [aq, ij]; split <;> rfl
        · rename_i e
          cases h7
          have R2 := R1.reown (l0 := l0) (l1 := .cell ⟨d, k, off⟩) (fun e' => e e'.symm) (nw := nw) (z := z) (es := es0) (y1 := .junk) (by rw [ao, if_neg (fun e' => e e'.symm)]; exact h2) (by simp [aq]) h3 hconc hA' rfl h5
          refine cz hd hr (R2.congr (fun l => ?_)) (hF.trans (Fr.give h3 _))
          simp only [aq, ij]
          by_cases e1 : l = l0
          · simp [e1]
          · by_cases e2 : l = .cell ⟨d, k, off⟩ <;> simp [e1, e2]
      split at hu
      · rename_i j nw z es
        split at hu
        · rename_i h1
          obtain ⟨hl1, rfl⟩ := hlx j rfl
          have he : s (.slot j) = some (.own nw z es) := hyx
          obtain ⟨b, o', cap, q1, q2, q3, q4⟩ := R.own_at he
          exact hown _ nw z es es b o' cap h1 he q2 q4 q3 (by simpa [conc, Act.eval] using q1) (by rw [if_neg (by simp)]; exact hu)
        · cases hu
      · rename_i j ys
        split at hu
        · rename_i hq
          obtain ⟨h1, h2⟩ := hq
          simp only [Option.map_eq_some_iff] at hu
          obtain ⟨u', hu', rfl⟩ := hu
          obtain ⟨hl1, rfl⟩ := hlx j rfl
          have he : s (.slot j) = some (.rcd ys) := hyx
          obtain ⟨v, hv, hr⟩ := R.locs _ _ he
          have hv' : a.eval (.tmp j) = v := by simpa [conc, Act.eval] using hv
          cases hr with
          | rcd _ vs _ hvl hvr hvd =>
          have hall := jy hu'
          have hsl : ∀ (m : Nat) v y, vs[m]? = some v → ys[m]? = some y → xw x w (.slot j) v y := fun m v y e1 e2 => by
            have := hvr m v y e1 e2
            rcases hall y (List.mem_of_getElem? e2) with ⟨c, rfl, hc⟩ | ⟨nw, z, es, rfl⟩
            · exact ⟨this.d_inv, hc⟩
            · cases this with
              | own _ b o len cap _ _ _ how hlen hcap A => exact ⟨b, o, cap, by rw [hlen], by omega, how, A⟩
          have hone : ∀ (m : Nat) v, vs[m]? = some v → v.oneCell' = true := fun m v e1 => by
            have hm : m < ys.length := by rw [← hvl]; exact (List.getElem?_eq_some_iff.1 e1).1
            have := hsl m v _ e1 (List.getElem?_eq_getElem hm)
            rcases hall ys[m] (List.getElem_mem hm) with ⟨c, hc1, hc⟩ | ⟨nw, z, es, hc1⟩
            · rw [hc1] at this; exact this.1.oneCell this.2
            · rw [hc1] at this; obtain ⟨b, o, cap, rfl, _⟩ := this; rfl
          have hr := hrun _ hv' (by simp [Value.cells, hvl, h1]) (fun m u hm => hone m u (by simpa [Value.cells] using hm))
          have R0 := R.forget (l0 := .slot j) (by rw [he]; rfl)
          obtain ⟨x', R1, F1, g1, g2, g3⟩ := Rel.relabels (dep := dep) (d := d) (k := k) (R.slotN _ _ he) ys vs off R0 hvl (fun v hv' => by simp only [ao, if_pos] at hv'; cases hv'; rfl) hsl hvd
          have hb1 := (hbx 0 (by omega)).1
          have hb2 : x'.ow (x'.ad d k) = some (.box d k) := by rw [g2, g1 _ (by rw [hb1]; simp)]; exact hb1
          have R2 := Rel.setRec vs ys off _ w R1 hvl (fun m hm => by
            have := hsp m (by omega)
            rw [ao]
            split
            · rfl
            · exact this) g3 hb2 u' hu'
          rw [g2] at R2
          have e2 : (Value.agg vs.toArray).cells.toList = vs := by simp [Value.cells]
          rw [e2] at hr
          exact cz hd hr R2 (F1.trans (by have := Fr.setBoxes (dep := dep) (w := w) hb2 off vs; rw [g2] at this; exact this))
        · cases hu
      · rename_i l o2 m
        split at hu
        · rename_i z es hs0
          split at hu
          · rename_i hq
            obtain ⟨rfl, rfl, h1⟩ := hq
            obtain ⟨b, o', cap', q1, q2, q3, q4, q5⟩ := R.bor_at hrx hs0
            simp only [List.drop_zero, List.take_length] at q5
            exact hown _ false z es es b o' cap' h1 hs0 q2 q5 q4 q1 hu
          · cases hu
        · cases hu
      · rename_i y
        split at hu
        · rename_i hq
          obtain ⟨h1, h2⟩ := hq
          cases hu
          obtain ⟨c1, c2, c3⟩ := hrx.d_inv.cells h2
          by_cases hn0 : n = 0
          · subst hn0
            have e1 : y.cells = [] := List.eq_nil_of_length_eq_zero h1
            have e2 : (a.eval X).cells.toList = [] := List.eq_nil_of_length_eq_zero (by simpa [c1] using h1)
            have hr := hrun _ rfl (by omega) (fun j u hu => by have := (Array.getElem?_eq_some_iff.1 hu).1; omega)
            rw [e2] at hr
            rw [e1]
            exact cz hd hr R (Fr.refl _ _ _)
          · have hb1 := (hbx 0 (by omega)).1
            have hr := hrun _ rfl (by omega) (fun j u hu => by
              have hj : j < y.cells.length := by rw [← c1]; exact (Array.getElem?_eq_some_iff.1 hu).1
              exact (c3 j u _ hu (List.getElem?_eq_getElem hj)).2)
            refine cz hd hr (Rel.setBoxes _ y.cells off s w R (by simpa using c1) (fun j hj => hsp j (by omega)) (fun j v c g1 g2 => (c3 j v c (by simpa using g1) g2).1) hb1) (Fr.setBoxes hb1 off _)
        · cases hu
      · rename_i hno hnb hnd
        split at hu
        · rename_i hq
          obtain ⟨h1, h2⟩ := hq
          cases hu
          subst h1
          obtain ⟨y0, hy0⟩ := Option.isSome_iff_exists.1 (hsp 0 (by omega))
          have hy0' : s (.cell ⟨d, k, off⟩) = some y0 := hy0
          have hn1 : yx.isOwn = false := by cases yx <;> first | rfl | simp [V.plainV] at h2
          have hone : (a.eval X).oneCell' = true := by
            generalize a.eval X = v at hrx
            cases hrx <;> first | rfl | (simp [V.plainV] at h2; done) | exact (hnd _ rfl).elim | exact (hnb _ rfl).elim | exact (hno _ rfl).elim
          exact cz hd (one _ rfl hone rfl) (R.setBox (c := ⟨d, k, off⟩) hy0' hn1 hrx) (Fr.setBox (hbx 0 (by omega)).1 off _)
        · cases hu
    · cases hu
  · -- an element
    rename_i l i off
    split at hu
    · rename_i z es y hs0 hy
      split at hu
      · rename_i hq
        obtain ⟨h1, h2⟩ := hq
        simp only [Option.bind_eq_some_iff, Option.map_eq_some_iff] at hu
        obtain ⟨e, he, e', he', rfl⟩ := hu
        have hdat : dat cfg s q = some y := by simp [dat, hyx, hy]
        have hry := mf R hX hdat
        obtain ⟨c1, c2, c3⟩ := hry.cells h2
        cases hra with
        | bref _ _ _ _ b o' h =>
        obtain ⟨o2, L, C, f1, f2⟩ := h _ _ hs0
        obtain ⟨b2, o3, cap, q1, q2, q3, q4⟩ := R.own_at hs0
        rw [f1] at q1
        cases q1
        have hcel := q4.cel e (List.mem_of_getElem? he)
        by_cases hn0 : y.cells = []
        · -- nothing to store
          have e2 : (a.eval X).cells.toList = [] := List.eq_nil_of_length_eq_zero (by simpa [hn0] using c1)
          have hn00 : n = 0 := by rw [← h1, hn0]; rfl
          subst hn00
          have hr := gw (w := w) (P := P) ho hva rfl hn (by simpa [hn0] using c1) (by intro j hj; omega) (by intro j hj; omega) (fun j u hu => by have := (Array.getElem?_eq_some_iff.1 hu).1; simp [hn0] at c1; simp [c1] at this)
          rw [e2] at hr
          have hee : e' = e := by
            rw [hn0] at he'
            unfold D.setAt at he'
            split at he'
            · split at he'
              · cases he'; rfl
              · cases he'; rfl
            · cases he'
          subst hee
          have hset : es.set i e' = es := by
            apply List.ext_getElem?
            intro m
            rw [List.getElem?_set]
            split
            · rename_i hm
              subst hm
              split
              · exact he.symm
              · rename_i hlt
                have := (List.getElem?_eq_some_iff.1 he).1
                exact absurd this hlt
            · rfl
          rw [hset]
          exact cz hd hr (R.congr (fun l' => by rw [ao]; split <;> simp_all)) (Fr.refl _ _ _)
        · obtain ⟨g1, g2, g3⟩ := x8 he' c2 hn0 hcel
          have hi := (List.getElem?_eq_some_iff.1 he).1
          have hwid := q4.wid e (List.mem_of_getElem? he)
          have hlt : ∀ m, m < z → i * z + m < es.length * z := fun m hm => oa hi hm
          have hle : es.length * z ≤ C * z := Nat.mul_le_mul_right z q3
          have hn1 : n ≤ z := by omega
          have hr := gw (w := w) (P := P) ho hva rfl hn (by omega) (fun j hj => by
              obtain ⟨⟨u, hu⟩, _⟩ := q4.room (i * z + (off + j)) (by have := hlt (off + j) (by omega); omega)
              rw [f2, show o2 + i * z + off + j = o2 + (i * z + (off + j)) by omega]
              have hu' : w.cell? ⟨b, o2 + (i * z + (off + j)), none⟩ = some u := hu
              rw [hu']; rfl) (fun j hj => by
              obtain ⟨_, hf⟩ := q4.room (i * z + (off + j)) (by have := hlt (off + j) (by omega); omega)
              rw [f2, show o2 + i * z + off + j = o2 + (i * z + (off + j)) by omega]
              exact hf) (fun j u hu => by
              have hj : j < y.cells.length := by rw [← c1]; exact (Array.getElem?_eq_some_iff.1 hu).1
              exact (c3 j u _ hu (List.getElem?_eq_getElem hj)).2)
          have hw := br w b o' (a.eval X).cells.toList
          have hvl : (a.eval X).cells.toList.length = n := by simpa [h1] using c1
          have hfree : ∀ b2 o4 u, freeB x b2 → w.cell? (ad3 b2 o4) = some u → freeB x b2 ∧ (w.setCells b o' (a.eval X).cells.toList).cell? (ad3 b2 o4) = some u := fun b2 o4 u p1 p2 =>
            ⟨p1, by rw [hw.cell (fun e => by rw [freeB, e, q2] at p1; cases p1)]; exact p2⟩
          have hA2 : Arr (freeB x) (w.setCells b o' (a.eval X).cells.toList) b o2 C z (es.set i e') := by
            refine ⟨q4.pos, fun j hj => ?_, fun d hd' => ?_, fun d hd' => ?_, fun i2 d hd' j c hj => ?_⟩
            · obtain ⟨⟨u, hu⟩, hf⟩ := q4.room j hj
              exact ⟨hw.keep _ _ hu, by rw [hw.froz _ ⟨u, hu⟩]; exact hf⟩
            · rcases List.mem_or_eq_of_mem_set hd' with h | rfl
              · exact q4.wid d h
              · omega
            · rcases List.mem_or_eq_of_mem_set hd' with h | rfl
              · exact q4.cel d h
              · intro c hc
                obtain ⟨m, hm⟩ := List.getElem?_of_mem hc
                rw [g3] at hm
                split at hm
                · exact c2 c (List.mem_of_getElem? hm)
                · exact hcel c (List.mem_of_getElem? hm)
            · by_cases ei : i2 = i
              · subst ei
                rw [List.getElem?_set_self hi] at hd'
                cases hd'
                rw [g3] at hj
                split at hj
                · rename_i hin
                  have hlt2 : j - off < (a.eval X).cells.toList.length := by rw [hvl]; omega
                  have hget := World.cell?_setCells_in b (a.eval X).cells.toList o' w (fun m hm => by
                    obtain ⟨⟨u, hu⟩, _⟩ := q4.room (i2 * z + (off + m)) (by have := hlt (off + m) (by omega); omega)
                    rw [f2, show o2 + i2 * z + off + m = o2 + (i2 * z + (off + m)) by omega]
                    have hu' : w.cell? ⟨b, o2 + (i2 * z + (off + m)), none⟩ = some u := hu
                    rw [hu']; rfl) (j - off) hlt2
                  have hsz : j - off < (a.eval X).cells.size := by simpa using hlt2
                  refine ⟨(a.eval X).cells[j - off], ?_, (c3 (j - off) _ c (Array.getElem?_eq_getElem hsz) hj).1.mono hfree⟩
                  rw [show ad3 b (o2 + i2 * z + j) = ⟨b, o' + (j - off), none⟩ by simp only [ad3, f2]; congr 1; omega, hget]
                  simp
                · rename_i hout
                  obtain ⟨v, p1, p2⟩ := q4.els i2 e he j c hj
                  refine ⟨v, bn p1 (fun _ => ?_), p2.mono hfree⟩
                  rw [hvl, f2]
                  omega
              · rw [List.getElem?_set_ne (Ne.symm ei)] at hd'
                obtain ⟨v, p1, p2⟩ := q4.els i2 d hd' j c hj
                have hjz : j < z := by rw [← q4.wid d (List.mem_of_getElem? hd')]; exact (List.getElem?_eq_some_iff.1 hj).1
                refine ⟨v, bn p1 (fun _ => ?_), p2.mono hfree⟩
                rw [hvl, f2]
                rcases Nat.lt_or_gt_of_ne ei with h | h
                · have : (i2 + 1) * z ≤ i * z := Nat.mul_le_mul_right z h
                  rw [Nat.add_mul] at this; omega
                · have : (i + 1) * z ≤ i2 * z := Nat.mul_le_mul_right z h
                  rw [Nat.add_mul] at this; omega
          exact cz hd hr (R.write hs0 f1 q2 hw hA2 (by simp) rfl q3) (Fr.write q2 hw)
      · cases hu
    · cases hu
  · cases hu

end
end Go.Ev

/-! EvV -/
/- copy, conversions between strings and bytes. Own work. -/
namespace Go.Ev
open Go

section
variable {P : Program} {cfg : Cfg} {x : Cx} {N dep : Nat} {s : Get} {a : Act} {w : World}

theorem ak0 {dT sT ty elem : TypeId} {b o dLen dCap z n : Nat} {y : Value} {cs : List Value} (hu : P.underlying dT = some (.slice elem)) (hz : sizeD P elem = some z)
    (hlen : (Builtin.lenOf y).run P w = .ok n w) (hcs : (Builtin.firstCells z (min n dLen) y).run P w = .ok cs.toArray w)
    (hc : ∀ j, j < cs.length → (w.cell? ⟨b, o + j, none⟩).isSome = true) (hf : ∀ j, j < cs.length → w.frozen? ⟨b, o + j, none⟩ = false) (h1 : ∀ v ∈ cs, v.oneCell' = true) :
    (Builtin.copy_ #[dT, sT] ty #[.slice (some (ad3 b o)) dLen dCap, y]).run P w = .ok (goInt ((min n dLen : Nat) : Int)) (w.setCells b o cs) := by
  have hst := run_storeCells_cells (P := P) b o cs 0 w (by simpa using hc) (by simpa using hf) h1
  simp only [Nat.add_zero] at hst
  have hsz := aw (w := w) hz
  simp only [Builtin.copy_, List.getElem?_toArray, List.getElem?_cons_zero, List.getElem?_cons_succ, Sem.run_bind, run_underlying hu, Result.andThen_ok, hlen, hsz, Sem.run_pure]
  rw [show Nat.min n dLen = min n dLen from rfl, hcs]
  simp only [Result.andThen_ok, hst, Sem.run_bind, Sem.run_pure]

/-- elements written over an array, in place -/
theorem Arr.over {b o cap z off : Nat} {es ys : List D} (A : Arr (freeB x) w b o cap z es) (hb : x.ow b ≠ none) (hcap : es.length ≤ cap) (hoff : off + ys.length ≤ es.length) {news : List Value} (hn : news.length = ys.length * z) (hz : ∀ e ∈ ys, e.cells.length = z)
    (hs : ∀ (i : Nat) e, ys[i]? = some e → ∀ (j : Nat) c, e.cells[j]? = some c → c.isCell = true ∧ ∃ v, news[i * z + j]? = some v ∧ Rd (freeB x) w v c ∧ v.oneCell' = true) :
    Arr (freeB x) (w.setCells b (o + off * z) news) b o cap z (es.take off ++ ys ++ es.drop (off + ys.length)) := by
  have hmono : ∀ b' o' u, freeB x b' → w.cell? (ad3 b' o') = some u → freeB x b' ∧ (w.setCells b (o + off * z) news).cell? (ad3 b' o') = some u := fun b' o' u h1 h2 =>
    ⟨h1, bn h2 (fun e => absurd h1 (by rw [e]; exact hb))⟩
  have hle : (off + ys.length) * z ≤ es.length * z := Nat.mul_le_mul_right z hoff
  have hle2 : es.length * z ≤ cap * z := Nat.mul_le_mul_right z hcap
  rw [Nat.add_mul] at hle
  have hget : ∀ (i : Nat) e, (es.take off ++ ys ++ es.drop (off + ys.length))[i]? = some e → (off ≤ i ∧ i < off + ys.length ∧ ys[i - off]? = some e) ∨ ((i < off ∨ off + ys.length ≤ i) ∧ es[i]? = some e) := by
    intro i e he
    have ht : (es.take off).length = off := by simp; omega
    by_cases h1 : i < off
    · rw [List.append_assoc, List.getElem?_append_left (by omega), List.getElem?_take] at he
      rw [if_pos h1] at he
      exact .inr ⟨.inl h1, he⟩
    · by_cases h2 : i < off + ys.length
      · rw [List.append_assoc, List.getElem?_append_right (by omega), ht, List.getElem?_append_left (by omega)] at he
        exact .inl ⟨by omega, h2, he⟩
      · rw [List.getElem?_append_right (by simp; omega), List.getElem?_drop] at he
        refine .inr ⟨.inr (by omega), ?_⟩
        rw [← he]
        congr 1
        simp
        omega
  have hmem : ∀ e ∈ es.take off ++ ys ++ es.drop (off + ys.length), e ∈ es ∨ e ∈ ys := by
    intro e he
    simp only [List.mem_append] at he
    rcases he with (he | he) | he
    · exact .inl (List.mem_of_mem_take he)
    · exact .inr he
    · exact .inl (List.mem_of_mem_drop he)
  refine ⟨A.pos, fun j hj => ?_, fun e he => ?_, fun e he => ?_, fun i e he j c hj => ?_⟩
  · obtain ⟨⟨u, hu⟩, hf⟩ := A.room j hj
    exact ⟨de b news _ w _ hu, by rw [World.frozen?_setCells]; exact hf⟩
  · rcases hmem e he with h | h
    · exact A.wid e h
    · exact hz e h
  · rcases hmem e he with h | h
    · exact A.cel e h
    · obtain ⟨i, hi⟩ := List.getElem?_of_mem h
      intro c hc
      obtain ⟨j, hj⟩ := List.getElem?_of_mem hc
      exact (hs i e hi j c hj).1
  · rcases hget i e he with ⟨h1, h2, h3⟩ | ⟨h1, h2⟩
    · obtain ⟨_, v, q1, q2, q3⟩ := hs _ e h3 j c hj
      refine ⟨v, ?_, q2.mono hmono⟩
      have hm : (i - off) * z + j < news.length := (List.getElem?_eq_some_iff.1 q1).1
      have := World.cell?_setCells_in b news (o + off * z) w (fun m hm' => by
        obtain ⟨⟨u, hu⟩, _⟩ := A.room (off * z + m) (by omega)
        rw [show o + off * z + m = o + (off * z + m) by omega]
        rw [hu]; rfl) _ hm
      have hi : i = off + (i - off) := by omega
      have e1 : o + i * z + j = o + off * z + ((i - off) * z + j) := by
        conv => lhs; rw [hi, Nat.add_mul]
        omega
      rw [show ad3 b (o + i * z + j) = ⟨b, o + off * z + ((i - off) * z + j), none⟩ by rw [e1], this, ← q1, List.getElem?_eq_getElem hm]
    · obtain ⟨v, q1, q2⟩ := A.els i e h2 j c hj
      have hjz : j < z := by rw [← A.wid e (List.mem_of_getElem? h2)]; exact (List.getElem?_eq_some_iff.1 hj).1
      refine ⟨v, bn q1 (fun _ => ?_), q2.mono hmono⟩
      rcases h1 with h1 | h1
      · have := oa h1 hjz
        exact .inl (by omega)
      · have : (off + ys.length) * z ≤ i * z := Nat.mul_le_mul_right z h1
        rw [Nat.add_mul] at this
        exact .inr (by omega)

theorem ah7 (R : Rel cfg x N s a w) {o : Oper} {c : Call} (ho : o.op = .call c) (hb : c.callee = .builtin .copy) {k : Nat} (hd : o.dst = some k) (hk : k < N) {X Y : Operand} (hargs : c.args.toList = [X, Y]) {t u e : TypeId}
    (htys : c.argTypes.toList = [t, u]) (ht : P.underlying t = some (.slice e)) {z : Nat} (hz : sizeD P e = some z) {l0 : Loc} {es : List D} (h0 : s l0 = some (.own false z es)) {b o0 L C of cap off n : Nat} (hcv : conc x a w l0 = some (.slice (some (ad3 b o0)) L C))
    (how : x.ow b = some (.at l0)) (hA : Arr (freeB x) w b o0 C z es) (hL : es.length = L) (hC : L ≤ C) (hof : n = 0 ∨ of = o0 + off * z) (hn : off + n ≤ es.length) (hX : a.eval X = .slice (some (ad3 b of)) n cap) {q : IOpd} (hY : cOpd Y = some q) {yv : V} (hy : val cfg s q = some yv)
    {ys : List D} (hc : cont s yv = some ys) (hyz : allZ z ys = true) :
    Goes P cfg x N dep (updG s ((l0, .own false z (es.take off ++ ys.take n ++ es.drop (off + min n ys.length))) :: put1 o.dst (.d (.int .i64 (min n ys.length : Nat))))) a w o := by
  obtain ⟨news, S, hs, ad, cp, hYe, hnil, hcell⟩ := p6 (P := P) R hY hy hc hyz
  have hci : ∃ i, c.args = #[X, Y] ∧ c.argTypes = #[t, u] ∧ i = 0 := ⟨0, by rw [← hargs], by rw [← htys], rfl⟩
  obtain ⟨_, hA1, hA2, _⟩ := hci
  have hYL := fa hyz
  have hcs : (Builtin.firstCells z (min ys.length n) (a.eval Y)).run P w = .ok (news.take (min ys.length n * z)).toArray w := by
    rw [hYe]
    cases ad with
    | none =>
      have := hnil rfl
      subst this
      have : news = [] := List.eq_nil_of_length_eq_zero (by simpa using S.num)
      subst this
      rw [run_firstCells_none]
      simp
    | some a0 =>
      refine run_firstCells_some (P := P) w z _ a0 _ cp _ ?_ (fun m v hm => hcell a0 rfl m v ?_)
      · rw [List.length_take, S.num]
        have : min ys.length n * z ≤ ys.length * z := Nat.mul_le_mul_right z (Nat.min_le_left _ _)
        omega
      · rw [List.getElem?_take] at hm
        split at hm
        · exact hm
        · cases hm
  have hlenY : (Builtin.lenOf (a.eval Y)).run P w = .ok ys.length w := S.len w
  have hnl : (news.take (min ys.length n * z)).length = min ys.length n * z := by
    rw [List.length_take, S.num]
    have : min ys.length n * z ≤ ys.length * z := Nat.mul_le_mul_right z (Nat.min_le_left _ _)
    omega
  have hyt : (ys.take n).length = min ys.length n := by simp [Nat.min_comm]
  have hle : (off + min ys.length n) * z ≤ C * z := Nat.mul_le_mul_right z (by omega)
  rw [Nat.add_mul] at hle
  have hof' : min ys.length n * z ≠ 0 → of = o0 + off * z := by
    intro h
    rcases hof with h1 | h1
    · subst h1; simp at h
    · exact h1
  have hrun : (execOp a.eval o).run P w = .ok (.value (goInt ((min ys.length n : Nat) : Int))) (w.setCells b of (news.take (min ys.length n * z))) := by
    refine bw ho hb ?_
    rw [hA1, hA2]
    simp only [builtin, List.map_toArray, List.map_cons, List.map_nil, Sem.run_bind, hX]
    rw [ak0 ht hz hlenY hcs (fun j hj => ?_) (fun j hj => ?_) (fun v hv => S.one v (List.mem_of_mem_take hv))]
    · rfl
    · rw [hnl] at hj
      obtain ⟨⟨u, hu⟩, _⟩ := hA.room (off * z + j) (by omega)
      rw [hof' (by omega), show o0 + off * z + j = o0 + (off * z + j) by omega, hu]
      rfl
    · rw [hnl] at hj
      obtain ⟨_, hf⟩ := hA.room (off * z + j) (by omega)
      rw [hof' (by omega), show o0 + off * z + j = o0 + (off * z + j) by omega]
      exact hf
  have hsame : w.setCells b of (news.take (min ys.length n * z)) = w.setCells b (o0 + off * z) (news.take (min ys.length n * z)) := by
    by_cases h : min ys.length n * z = 0
    · rw [h]; simp [World.setCells]
    · rw [hof' h]
  rw [hsame] at hrun
  have hA' := hA.over (off := off) (ys := ys.take n) (by rw [how]; simp) (by omega) (by rw [hyt]; omega) (by rw [hyt]; exact hnl) (fun e he => hYL e (List.mem_of_mem_take he)) (fun i e he j c hj => by
    rw [List.getElem?_take] at he
    split at he
    · obtain ⟨h1, v, h2, h3⟩ := hs i e he j c hj
      refine ⟨h1, v, ?_, h3⟩
      have hjz : j < z := by rw [← hYL e (List.mem_of_getElem? he)]; exact (List.getElem?_eq_some_iff.1 hj).1
      have hi : i < min ys.length n := by have := (List.getElem?_eq_some_iff.1 he).1; omega
      have := oa hi hjz
      rw [List.getElem?_take, if_pos this]
      exact h2
    · cases he)
  rw [hyt] at hA'
  have hw := br w b (o0 + off * z) (news.take (min ys.length n * z))
  have R1 := R.write h0 hcv how hw hA' (by simp; omega) hL hC
  have hcomm : min n ys.length = min ys.length n := Nat.min_comm _ _
  rw [hcomm]
  refine ⟨goInt ((min ys.length n : Nat) : Int), _, x, .inl hrun, ?_, Fr.write how hw⟩
  rw [hd]
  exact R1.put hk rfl (l := none) (.d _ _ _ (by rw [show goInt ((min ys.length n : Nat) : Int) = .int .i64 ((min ys.length n : Nat) : Int) from rfl]; exact .int _ _))

theorem sim_copy (R : Rel cfg x N s a w) {o : Oper} {c : Call} (ho : o.op = .call c) (hb : c.callee = .builtin .copy) {k : Nat} (hd : o.dst = some k) (hk : k < N) {X Y : Operand} (hargs : c.args.toList = [X, Y]) {t u e : TypeId}
    (htys : c.argTypes.toList = [t, u]) (ht : P.underlying t = some (.slice e)) {z : Nat} (hz : sizeD P e = some z) {p q : IOpd} (hX : cOpd X = some p) (hY : cOpd Y = some q) {v yv : V} (hx : val cfg s p = some v) (hy : val cfg s q = some yv)
    {ys : List D} (hc : cont s yv = some ys) {r : List (Loc × V)} (hr : jf s o.dst z p v ys = some r) : Goes P cfg x N dep (updG s r) a w o := by
  unfold jf at hr
  split at hr
  · rename_i hyz
    obtain ⟨l0, hrd, hl0⟩ := ap R hX hx
    simp only at hr
    split at hr
    · rename_i j z' es
      split at hr
      · rename_i z2 es2 hs0
        split at hr
        · rename_i hq
          obtain ⟨rfl, hq2⟩ := hq
          cases hr
          obtain ⟨hl1, rfl⟩ := hl0 j rfl
          have he : s (.slot j) = some (.own false z' es) := hx
          rw [he] at hs0
          cases hs0
          obtain ⟨b, o', cap, q1, q2, q3, q4⟩ := R.own_at he
          exact ah7 R ho hb hd hk hargs htys ht hz he q1 q2 q4 rfl q3 (of := o') (off := 0) (.inr (by simp)) hq2 (by simpa [conc, Act.eval] using q1) hY hy hc hyz
        · cases hr
      · cases hr
    · rename_i l off n
      split at hr
      · rename_i z2 es2 hs0
        split at hr
        · rename_i hq
          obtain ⟨rfl, hq2⟩ := hq
          cases hr
          obtain ⟨b, o', cap, q1, q2, q3, q4⟩ := R.own_at hs0
          generalize hva : a.eval X = vx at hrd
          cases hrd with
          | bor _ _ _ _ b2 o2 cap2 hcap h =>
            obtain ⟨o3, L, C, g1, g2, g3, g4⟩ := h _ _ hs0
            rw [g1] at q1
            cases q1
            exact ah7 R ho hb hd hk hargs htys ht hz hs0 g1 q2 q4 rfl q3 (off := off) (by rcases g3 with g3 | g3 <;> omega) hq2 hva hY hy hc hyz
        · cases hr
      · cases hr
    · cases hr
  · cases hr

theorem mp : ∀ {es : List D} {b : List UInt8}, bu es = some b → ∃ ns : List Int, es = ns.map (D.int .u8) ∧ b = ns.map fun n => UInt8.ofNat n.toNat
  | [], b, h => by cases h; exact ⟨[], rfl, rfl⟩
  | e :: es, b, h => by
    unfold bu at h
    split at h
    · rename_i c bs h1 h2
      cases h
      obtain ⟨ns, rfl, rfl⟩ := mp h2
      unfold D.byte? at h1
      split at h1
      · rename_i n
        cases h1
        exact ⟨n :: ns, rfl, rfl⟩
      · cases h1
    · cases h

theorem f6 : ∀ (ns : List Int) (r : ByteArray), ns.foldl (fun r n => r.push (UInt8.ofNat n.toNat)) r = ⟨r.data ++ (ns.map fun n => UInt8.ofNat n.toNat).toArray⟩
  | [], r => by simp
  | n :: ns, r => by
    rw [List.foldl_cons, f6 ns]
    simp [ByteArray.push]

theorem rd_byte {F : Nat → Prop} (b : UInt8) : Rd F w (.int .u8 (b.toNat : Int)) (byteD b) := .int _ _

theorem ed {o : Oper} {sT dT : TypeId} {X : Operand} (ho : o.op = .convert sT dT X) {v : Value} {w' : World} (h : (convert sT dT (a.eval X)).run P w = .ok v w') : (execOp a.eval o).run P w = .ok (.value v) w' := by
  simp only [execOp, ho, Sem.run_bind, h, Result.andThen_ok, Sem.run_pure]

/-- the mark behind an array -/
theorem aan {w : World} {b : Nat} (hn : NoFz w b) {c : Array Value} {e : TypeId} {fr : Nat × Nat} (hb : w.heap[b]? = some (.cells c e fr)) : OnlyB b w (w.freeze ⟨b, c.size, none⟩ 1) ∧ ∀ b' o, (w.freeze ⟨b, c.size, none⟩ 1).cell? (ad3 b' o) = w.cell? (ad3 b' o) := by
  obtain ⟨lo, hi⟩ := fr
  have hnf := hn c e lo hi hb
  have hheap : ∀ b', (w.freeze ⟨b, c.size, none⟩ 1).heap[b']? = if b = b' then some (.cells c e (if lo == hi then (c.size, c.size + 1) else (min lo c.size, max hi (c.size + 1)))) else w.heap[b']? := fun b' => by
    unfold World.freeze
    rw [if_neg (by decide)]
    simp only [Array.getElem?_modify]
    split
    · rename_i h; subst h; rw [hb]; rfl
    · rfl
  have hcell : ∀ b' o, (w.freeze ⟨b, c.size, none⟩ 1).cell? (ad3 b' o) = w.cell? (ad3 b' o) := fun b' o => by
    unfold World.cell?
    rw [hheap]
    by_cases h : b = b'
    · subst h; rw [if_pos rfl, hb]
    · rw [if_neg h]
  have hnew : NoFz (w.freeze ⟨b, c.size, none⟩ 1) b := fun c' e' p q h1 h2 => by
    rw [hheap, if_pos rfl] at h1
    by_cases he : lo = hi
    · subst he
      simp only [beq_self_eq_true, if_true, Option.some.injEq, Obj.cells.injEq, Prod.mk.injEq] at h1
      obtain ⟨rfl, _, rfl, _⟩ := h1
      exact Nat.le_refl _
    · have hl := hnf he
      rw [if_neg (by simpa using he)] at h1
      simp only [Option.some.injEq, Obj.cells.injEq, Prod.mk.injEq] at h1
      obtain ⟨rfl, _, rfl, _⟩ := h1
      omega
  have hunf : ∀ {w1 : World} {c1 e1 f1}, w1.heap[b]? = some (.cells c1 e1 f1) → NoFz w1 b → ∀ o u, w1.cell? (ad3 b o) = some u → w1.frozen? (ad3 b o) = false := by
    intro w1 c1 e1 f1 h1 h2 o u h3
    obtain ⟨p, q⟩ := f1
    have h4 := h2 _ _ _ _ h1
    unfold World.cell? at h3
    rw [h1] at h3
    have h5 : c1[o]? = some u := h3
    have h6 := (Array.getElem?_eq_some_iff.1 h5).1
    unfold World.frozen?
    rw [h1]
    simp only [Bool.and_eq_false_iff, decide_eq_false_iff_not]
    by_cases he : p = q
    · omega
    · have := h4 he; omega
  refine ⟨⟨?_, fun b' h => by rw [hheap, if_neg (Ne.symm h)], fun o ⟨u, hu⟩ => ?_, fun o u h => ⟨u, by rw [hcell]; exact h⟩, ?_, fun _ => hnew⟩, hcell⟩
  · unfold World.freeze
    rw [if_neg (by decide)]
    simp
  · rw [hunf hb hn o u hu]
    exact hunf (w1 := w.freeze ⟨b, c.size, none⟩ 1) (by rw [hheap, if_pos rfl]) hnew o u (by rw [hcell]; exact hu)
  · unfold World.freeze
    rw [if_neg (by decide)]
    exact ⟨rfl, rfl, rfl⟩

theorem sim_cvB (R : Rel cfg x N s a w) {o : Oper} {t e : TypeId} {j : Nat} (ho : o.op = .convert t t (.tmp j)) {k : Nat} (hd : o.dst = some k) (hk : k < N) (ht : P.underlying t = some (.slice e)) (he : P.underlying e = some (.int .u8))
    {nw : Bool} {z : Nat} {es : List D} (hs : s (.slot j) = some (.own nw z es)) (own : Bool) :
    Goes P cfg x N dep (updG s (put1 o.dst (if own then .own true z es else .d (.sl es)) ++ [(.slot j, .junk)])) a w o := by
  obtain ⟨b, of, cap, h1, how, hcap, A⟩ := R.own_at hs
  have hv : a.eval (.tmp j) = .slice (some (ad3 b of)) es.length cap := by simpa [conc, Act.eval] using h1
  have hmark : ∃ w', (markStringish (ad3 b of)).run P w = .ok () w' ∧ OnlyB b w w' ∧ ∀ b' o, w'.cell? (ad3 b' o) = w.cell? (ad3 b' o) := by
    unfold markStringish
    cases hsh : w.shape? b with
    | none =>
      refine ⟨w, by simp [hsh], ⟨rfl, fun _ _ => rfl, fun _ _ => rfl, fun _ u h => ⟨u, h⟩, .refl _, fun h => h⟩, fun _ _ => rfl⟩
    | some p =>
      obtain ⟨et, n⟩ := p
      have hsh' := hsh
      unfold World.shape? at hsh'
      split at hsh'
      · rename_i c el fr hb
        cases hsh'
        obtain ⟨g1, g2⟩ := aan (R.nofz b (by rw [how]; exact .inr ⟨_, rfl⟩)) hb
        exact ⟨_, by simp [hsh], g1, g2⟩
      · cases hsh'
  obtain ⟨w', hr, hw, hcell⟩ := hmark
  have hrun : (execOp a.eval o).run P w = .ok (.value (.slice (some (ad3 b of)) es.length cap)) w' := by
    refine ed ho ?_
    rw [hv]
    simp only [convert, Sem.run_bind, run_underlying ht, run_underlying he, Result.andThen_ok, beq_self_eq_true, hr, Sem.run_pure]
  have A' : Arr (freeB x) w' b of cap z es := A.mono (fun b o u h1 h2 => ⟨h1, by rw [hcell]; exact h2⟩) (fun o u h => by rw [hcell]; exact h) (fun o u h1 h2 => by rw [hw.froz o ⟨u, h1⟩]; exact h2)
  have R1 : Rel cfg x N s a w' := (R.write hs h1 how hw A' rfl rfl hcap).congr (fun l => by
    rw [ao]
    split
    · rename_i e; rw [e, hs]
    · rfl)
  cases own
  · obtain ⟨b2, how2, _, R2⟩ := R1.release hs
    obtain ⟨u, hu, hrd⟩ := R2.locs (.slot j) (.d (.sl es)) (by rw [ao, if_pos rfl])
    have hu' : u = .slice (some (ad3 b of)) es.length cap := by
      have h1' : conc (x.give b2 none) a w' (.slot j) = some (.slice (some (ad3 b of)) es.length cap) := h1
      rw [h1'] at hu
      exact (Option.some.inj hu).symm
    subst hu'
    have R3 : Rel cfg (x.give b2 none) N (updG s [(.slot j, .junk)]) a w' := (R2.forget (l0 := .slot j) (by simp [ao])).congr (fun l => by
      simp only [ao]
      split <;> rfl)
    refine ⟨_, w', x.give b2 none, .inl hrun, ?_, (Fr.write how hw).trans (Fr.give how2 _)⟩
    rw [hd]
    exact (R3.put hk rfl (l := none) (.d _ _ _ hrd.d_inv)).landed
  · refine ⟨_, w', x.give b (some (.at (.slot k))), .inl hrun, ?_, (Fr.write how hw).trans (Fr.give how _)⟩
    rw [hd]
    exact R1.handAny hk hs how A' rfl hcap

theorem sim_s2b (R : Rel cfg x N s a w) {o : Oper} {sT dT e : TypeId} {X : Operand} (ho : o.op = .convert sT dT X) {k : Nat} (hd : o.dst = some k) (hk : k < N) {p : IOpd} (hX : cOpd X = some p) (hs : P.underlying sT = some .string)
    (ht : P.underlying dT = some (.slice e)) (he : P.underlying e = some (.int .u8)) {b : List UInt8} (hy : val cfg s p = some (.d (.str b))) (own : Bool) :
    Goes P cfg x N dep (updG s (put1 o.dst (if own then .own true 1 (b.map byteD) else .d (.sl (b.map byteD))))) a w o := by
  obtain ⟨l0, hr, _⟩ := ap R hX hy
  have hv := hr.d_inv.str_inv
  have hrun := run_bytes_of_string (P := P) w sT dT e ⟨b.toArray⟩ hs ht he
  rw [← hv] at hrun
  have hexe := ed (a := a) ho hrun
  have hsz : (ByteArray.mk b.toArray).size = b.length := by simp [ByteArray.size]
  rw [hsz] at hexe
  have hcap : b.length ≤ grownCap w b.length 0 e := fw w _ _ e
  generalize grownCap w b.length 0 e = cap at hexe hcap
  have hrow : (bytesRow ⟨b.toArray⟩ cap).size = cap := by simp [bytesRow, hsz]; omega
  have hat : ∀ (j : Nat) c, (b.map byteD)[j]? = some c → ∃ v, (bytesRow ⟨b.toArray⟩ cap)[j]? = some v ∧ ∀ F w', Rd F w' v c := by
    intro j c hc
    rw [List.getElem?_map] at hc
    cases hb : b[j]? with
    | none => rw [hb] at hc; cases hc
    | some y =>
      rw [hb] at hc
      cases hc
      obtain ⟨hlt, hbe⟩ := List.getElem?_eq_some_iff.1 hb
      refine ⟨_, bytesRow_at ⟨b.toArray⟩ cap j (by simpa using hlt), fun F w' => ?_⟩
      simp only [List.getElem_toArray, hbe]
      exact rd_byte y
  generalize bytesRow ⟨b.toArray⟩ cap = row at hexe hrow hat
  have hcell : ∀ j, (w.drew.alloc (.cells row e (row.size, row.size + 1))).cell? (ad3 w.heap.size j) = row[j]? := fun j => World.cell?_alloc_mark w.drew row e _ j
  have hfroz : ∀ j, j < cap → (w.drew.alloc (.cells row e (row.size, row.size + 1))).frozen? (ad3 w.heap.size j) = false := fun j hj => by
    have := World.frozen?_alloc_mark w.drew row e row.size (row.size + 1) j
    refine Eq.trans this ?_
    rw [hrow]
    simp; omega
  have hlen : (b.map byteD).length = b.length := by simp
  have hwid : ∀ e ∈ b.map byteD, e.cells.length = 1 ∧ ∀ c ∈ e.cells, c.isCell = true := fun e he => by
    obtain ⟨y, _, rfl⟩ := List.mem_map.1 he
    exact ⟨rfl, fun c hc => by simp [byteD, D.cells] at hc; subst hc; rfl⟩
  have hone : ∀ (i : Nat) e, (b.map byteD)[i]? = some e → ∀ (j : Nat) c, e.cells[j]? = some c → j = 0 ∧ c = e := fun i e he j c hc => by
    obtain ⟨y, _, rfl⟩ := List.mem_map.1 (List.mem_of_getElem? he)
    cases j with
    | zero => simp [byteD, D.cells] at hc; exact ⟨rfl, hc.symm⟩
    | succ j => simp [byteD, D.cells] at hc
  cases own
  · refine ⟨_, _, x.give w.heap.size none, .inl hexe, ?_, Fr.trans Fr.drew (Fr.alloc (w := w.drew) (.cells row e (row.size, row.size + 1)) _)⟩
    rw [hd]
    refine ((R.drew).alloc (.cells row e (row.size, row.size + 1)) none).put hk rfl (l := none) (.d _ _ _ ?_)
    have := Rd.sl_of (F := freeB (x.give w.heap.size none)) (w := w.drew.alloc (.cells row e (row.size, row.size + 1))) (b := w.heap.size) (o := 0) (cap := cap) (z := 1) (es := b.map byteD) (by omega) (fun e he => (hwid e he).1) (fun i e he => ?_)
    · rw [hlen] at this; exact this
    · refine ⟨(hwid e (List.mem_of_getElem? he)).2, fun j c hc => ?_⟩
      obtain ⟨rfl, rfl⟩ := hone i e he j c hc
      obtain ⟨v, g1, g2⟩ := hat i c he
      refine ⟨v, by simp [freeB, Cx.give], ?_, g2 _ _⟩
      rw [show ad3 w.heap.size (0 + i * 1 + 0) = ad3 w.heap.size i by simp [ad3], hcell]
      exact g1
  · refine ⟨_, _, x.give w.heap.size (some (.at (.slot k))), .inl hexe, ?_, Fr.trans Fr.drew (Fr.alloc (w := w.drew) (.cells row e (row.size, row.size + 1)) _)⟩
    rw [hd]
    refine ((R.drew).alloc (.cells row e (row.size, row.size + 1)) (some (.at (.slot k)))).putAt hk (by simp) ?_
    refine .own _ _ _ _ _ _ _ _ ?_ hlen hcap ⟨by decide, fun j hj => ⟨?_, ?_⟩, fun e he => (hwid e he).1, fun e he => (hwid e he).2, fun i e he j c hc => ?_⟩
    · show (x.give w.heap.size _).ow w.heap.size = _
      simp [Cx.give]
    · have hlt : j < row.size := by omega
      exact ⟨row[j], by rw [Nat.zero_add]; exact (hcell j).trans (Array.getElem?_eq_getElem hlt)⟩
    · rw [Nat.zero_add]; exact hfroz j (by omega)
    · obtain ⟨rfl, rfl⟩ := hone i e he j c hc
      obtain ⟨v, g1, g2⟩ := hat i c he
      refine ⟨v, ?_, g2 _ _⟩
      refine Eq.trans ?_ g1
      refine Eq.trans ?_ (hcell i)
      simp

theorem sim_b2s (R : Rel cfg x N s a w) {o : Oper} {sT dT e : TypeId} {X : Operand} (ho : o.op = .convert sT dT X) {k : Nat} (hd : o.dst = some k) (hk : k < N) {p : IOpd} (hX : cOpd X = some p) (hs : P.underlying sT = some (.slice e))
    (ht : P.underlying dT = some .string) (he : P.underlying e = some (.int .u8)) {y : V} (hy : val cfg s p = some y) {es : List D} (hc : cont s y = some es) {b : List UInt8} (hb : bu es = some b) :
    Goes P cfg x N dep (updG s (put1 o.dst (.d (.str b)))) a w o := by
  obtain ⟨ns, rfl, rfl⟩ := mp hb
  have hz : ∀ ns : List Int, allZ 1 (ns.map (D.int .u8)) = true := by
    intro ns
    induction ns with
    | nil => rfl
    | cons n r ih => simpa [allZ, D.cells] using ih
  obtain ⟨news, S, hs2, ad, cp, hYe, hnil, hcell⟩ := p6 (P := P) R hX hy hc (hz ns)
  have hnews : news = ns.map (Value.int .u8) := by
    refine List.ext_getElem? (fun j => ?_)
    rw [List.getElem?_map]
    cases hj : ns[j]? with
    | none =>
      have hlt := S.num
      rw [List.getElem?_eq_none_iff] at hj
      simp only [List.length_map, Nat.mul_one] at hlt
      rw [List.getElem?_eq_none_iff.2 (by omega)]
      rfl
    | some n =>
      obtain ⟨_, v, g1, g2, _⟩ := hs2 j (.int .u8 n) (by rw [List.getElem?_map, hj]; rfl) 0 _ rfl
      have := g2.int_inv
      subst this
      simpa using g1
  have hrun : (convert sT dT (a.eval X)).run P w = .ok (.string ⟨(ns.map fun n => UInt8.ofNat n.toNat).toArray⟩) w := by
    rw [hYe, run_convert_bytes_string w sT dT e ad _ cp hs he ht]
    cases ad with
    | none =>
      have := hnil rfl
      simp only [List.map_eq_nil_iff] at this
      subst this
      rfl
    | some a0 =>
      have hl := run_loadCells_list (P := P) w a0 news (fun m v hm => hcell a0 rfl m v hm)
      rw [hnews] at hl
      simp only [List.length_map] at hl
      rw [List.length_map, run_bytesToString w a0 _ cp ns hl, f6]
      simp [ByteArray.empty, ByteArray.emptyWithCapacity]
      rfl
  exact al R hd hk (ed ho hrun) (.str _)

end
end Go.Ev

/-! EvW -/
/- One operation that calls nothing: the model goes where the evaluator goes. Own work. -/
namespace Go.Ev
open Go

section
variable {P : Program} {cfg : Cfg} {x : Cx} {N dep : Nat} {s : Get} {a : Act} {w : World}

theorem my {v : Value} {d : D} (h : valD0 v = some d) : d.storable = true := by
  unfold valD0 at h
  split at h <;> cases h <;> rfl

theorem pb {v : Value} {d : D} (h : valD v = some d) : d.storable = true := by
  unfold valD at h
  split at h
  · simp only [Option.map_eq_some_iff] at h
    obtain ⟨cs, _, rfl⟩ := h
    rfl
  · exact my h

theorem gm {t : TypeId} {d : D} (h : zeroD P t = some d) : d.storable = true := by
  simp only [zeroD, Option.bind_eq_some_iff] at h
  obtain ⟨v, _, h⟩ := h
  exact pb h

theorem str_src (R : Rel cfg x N s a w) {X : Operand} {p : IOpd} (hX : cOpd X = some p) {b : List UInt8} (hy : val cfg s p = some (.d (.str b))) :
    ∃ news, Src P w 1 (a.eval X) (b.map byteD).length news ∧ (∀ (i : Nat) e, (b.map byteD)[i]? = some e → ∀ (j : Nat) c, e.cells[j]? = some c → c.isCell = true ∧ ∃ v, news[i * 1 + j]? = some v ∧ Rd (freeB x) w v c ∧ v.oneCell' = true) := by
  obtain ⟨l, hr, _⟩ := ap R hX hy
  have e := hr.d_inv.str_inv
  rw [e]
  refine ⟨b.map fun c => Value.int .u8 c.toNat, ⟨fun w' => by simp [Builtin.lenOf, ByteArray.size], fun w' _ => ?_, by simp, fun v hv => ?_⟩, fun i e he j c hc => ?_⟩
  · simp [Builtin.firstCells]
  · obtain ⟨c, _, rfl⟩ := List.mem_map.1 hv
    rfl
  · rw [List.getElem?_map] at he
    cases hb : b[i]? with
    | none => rw [hb] at he; cases he
    | some y =>
      rw [hb] at he
      cases he
      cases j with
      | succ j => simp [byteD, D.cells] at hc
      | zero =>
        simp [byteD, D.cells] at hc
        subst hc
        exact ⟨rfl, .int .u8 y.toNat, by simp [hb], .int _ _, rfl⟩

theorem mk1 {c : Array Operand} {X : Operand} {p : IOpd} (h : cOpds c.toList = some [p]) : ∃ X, c.toList = [X] ∧ cOpd X = some p := by
  cases h1 : c.toList with
  | nil => rw [h1] at h; cases h
  | cons X r =>
    rw [h1] at h
    unfold cOpds at h
    split at h
    · rename_i a b h2 h3
      cases h
      cases r with
      | nil => exact ⟨X, rfl, h2⟩
      | cons Y r => 
        unfold cOpds at h3
        split at h3 <;> cases h3
    · cases h

theorem mk2 {c : Array Operand} {p q : IOpd} (h : cOpds c.toList = some [p, q]) : ∃ X Y, c.toList = [X, Y] ∧ cOpd X = some p ∧ cOpd Y = some q := by
  cases h1 : c.toList with
  | nil => rw [h1] at h; cases h
  | cons X r =>
    rw [h1] at h
    unfold cOpds at h
    split at h
    · rename_i a b h2 h3
      cases h
      cases r with
      | nil => cases h3
      | cons Y r =>
        unfold cOpds at h3
        split at h3
        · rename_i a b h4 h5
          cases h3
          cases r with
          | nil => exact ⟨X, Y, rfl, h2, h4⟩
          | cons Z r =>
            unfold cOpds at h5
            split at h5 <;> cases h5
        · cases h3
    · cases h

/-- a builtin -/
theorem sim_blt (R : Rel cfg x N s a w) {o : Oper} {c : Call} (ho : o.op = .call c) {b : Builtin} (hb : c.callee = .builtin b) {args : List IOpd} (hargs : cOpds c.args.toList = some args) {io : IOp}
    (hop : b9 P b args c.argTypes.toList = some io) {k : Nat} (hd : o.dst = some k) (hk : k < N) {u : List (Loc × V)} (hu : evOp cfg dep s o.dst io = some u) : Goes P cfg x N dep (updG s u) a w o := by
  unfold b9 at hop
  split at hop
  · -- len
    rename_i p t htys
    obtain ⟨X, hX1, hX⟩ := mk1 (X := .tmp 0) hargs
    split at hop
    · rename_i ht
      cases hop
      simp only [evOp] at hu
      split at hu
      · rename_i b hy
        cases hu
        exact akp R ho hb hX1 htys hd hk hX (.inl ht) hy rfl ⟨fun _ => ht, fun _ => ⟨_, rfl⟩⟩
      · cases hu
    · rename_i e ht
      cases hop
      simp only [evOp] at hu
      split at hu
      · rename_i v hy
        split at hu <;> cases hu
        all_goals exact akp R ho hb hX1 htys hd hk hX (.inr ⟨e, ht⟩) hy rfl ⟨(fun ⟨_, h⟩ => by cases h), (fun h => by rw [ht] at h; cases h)⟩
      · cases hu
    · cases hop
  · cases hop
    simp only [evOp, Option.bind_eq_some_iff, Option.map_eq_some_iff] at hu
    obtain ⟨l, hl, r, hr, rfl⟩ := hu
    exact ng (mx := false) R ho hb hd hk hargs hl hr
  · cases hop
    simp only [evOp, Option.bind_eq_some_iff, Option.map_eq_some_iff] at hu
    obtain ⟨l, hl, r, hr, rfl⟩ := hu
    exact ng (mx := true) R ho hb hd hk hargs hl hr
  · -- append
    rename_i p q t u' htys
    obtain ⟨X, Y, hXY, hX, hY⟩ := mk2 hargs
    split at hop
    · rename_i e e' ht hu'
      split at hop
      · rename_i i zd hi hzd
        split at hop
        · rename_i hq
          obtain ⟨rfl, hz0, hb0, hzl⟩ := hq
          cases hop
          simp only [evOp] at hu
          split at hu
          · rename_i v ys hv hys
            simp only [Option.bind_eq_some_iff] at hys
            obtain ⟨yv, hyv, hcont⟩ := hys
            have hz : allZ i.size ys = true := by
              unfold b7 at hu
              split at hu
              · rename_i h; simp only [Bool.and_eq_true] at h; exact h.1
              · cases hu
            obtain ⟨news, S, hs, _⟩ := p6 (P := P) R hY hyv hcont hz
            rw [hd] at hu
            exact akx R ho hb hd hk hXY htys ht hu' (by simp) hi hzd hzl (gm hzd) hb0 hz0 hX hv S hs hu
          · cases hu
        · cases hop
      · cases hop
    · rename_i e ht hu'
      split at hop
      · rename_i i n hi he hzd
        split at hop
        · rename_i hq
          obtain ⟨hs1, hb1⟩ := hq
          cases hop
          simp only [evOp] at hu
          split at hu
          · rename_i v b' hv hyv
            obtain ⟨news, S, hs⟩ := str_src (P := P) R hY hyv
            rw [hd] at hu
            exact akx R ho hb hd hk hXY htys ht hu' (by simp) hi hzd (by rw [hs1]; rfl) rfl (by omega) (by omega) hX hv (by rw [hs1]; exact S) (by rw [hs1]; exact hs) (by rw [hs1, hb1]; exact hu)
          · cases hu
        · cases hop
      · cases hop
    · cases hop
  · -- copy
    rename_i p q t u' htys
    obtain ⟨X, Y, hXY, hX, hY⟩ := mk2 hargs
    split at hop
    · rename_i e e' ht hu'
      split at hop
      · rename_i z z' hz hz'
        split at hop
        · rename_i hq
          cases hop
          simp only [evOp] at hu
          split at hu
          · rename_i v ys hv hys
            simp only [Option.bind_eq_some_iff] at hys
            obtain ⟨yv, hyv, hcont⟩ := hys
            exact sim_copy R ho hb hd hk hXY htys ht hz hX hY hv hyv hcont hu
          · cases hu
        · cases hop
      · cases hop
    · cases hop
  · cases hop

end
end Go.Ev
