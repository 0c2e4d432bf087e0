/- Closed calls in a world of which some blocks are known: laid variables besides; blocks of literals. Own work. -/
import Derived.Test.YtplmdlobbfcknaaGreatDoorMeX5
namespace Go.Me
open Go Go.RowKit
set_option linter.unusedSimpArgs false
set_option linter.unusedVariables false

mutual
theorem vr_toV {ν : Nm} : ∀ {x : M} {u : Value}, Me.toV x = some u → VR ν x u
  | .bool b, u, e => by simp [Me.toV] at e; subst e; exact .bool _
  | .int k n, u, e => by simp [Me.toV] at e; subst e; exact .int _ _
  | .str s, u, e => by simp [Me.toV] at e; subst e; exact .str _
  | .ptr b o, u, e => by simp [Me.toV] at e
  | .glob g o, u, e => by simp [Me.toV] at e; subst e; exact .glob _ _
  | .nilP, u, e => by simp [Me.toV] at e; subst e; exact .nilP
  | .sl b o n c, u, e => by simp [Me.toV] at e
  | .slz, u, e => by simp [Me.toV] at e
  | .nilS, u, e => by simp [Me.toV] at e; subst e; exact .nilS
  | .fn f p q, u, e => by simp [Me.toV] at e
  | .nilF, u, e => by simp [Me.toV] at e; subst e; exact .nilF
  | .ifc t x, u, e => by
    unfold Me.toV at e
    split at e
    · rename_i u' hu
      cases e
      exact .ifc _ _ _ (vr_toV hu)
    · cases e
  | .nilI, u, e => by simp [Me.toV] at e; subst e; exact .nilI
  | .map b, u, e => by simp [Me.toV] at e
  | .nilM, u, e => by simp [Me.toV] at e; subst e; exact .nilM
  | .agg l, u, e => by
    unfold Me.toV at e
    split at e
    · rename_i us hu
      cases e
      exact VR.agg' (vr_toVs hu)
    · cases e
  | .tup l, u, e => by simp [Me.toV] at e
  | .junk, u, e => by simp [Me.toV] at e
theorem vr_toVs {ν : Nm} : ∀ {l : List M} {us : List Value}, Me.toVs l = some us → VRs ν l us
  | [], us, e => by simp [Me.toVs] at e; subst e; exact .nil
  | x :: l, us, e => by
    unfold Me.toVs at e
    split at e
    · rename_i a b ha hb
      cases e
      exact .cons (vr_toV ha) (vr_toVs hb)
    · cases e
end

theorem cellsL_at {ez : Nat} {d : M} {l : List M} {i : Nat} {x : M} (h : (cellsL ez d l).at i = some x) : l[i]? = some x := by
  obtain ⟨h1, h2⟩ := cells_at h
  rw [trOf_get, if_neg (by omega), Nat.sub_zero, List.getElem?_eq_getElem h1] at h2
  rw [List.getElem?_eq_getElem h1, h2]
  rfl
theorem cellsL_at' {ez : Nat} {d : M} {l : List M} {i : Nat} {x : M} (h : l[i]? = some x) : (cellsL ez d l).at i = some x := by
  have h1 : i < l.length := (List.getElem?_eq_some_iff.1 h).1
  show (bif Nat.blt i l.length then _ else _) = _
  rw [show Nat.blt i l.length = true by simpa [Nat.blt_eq] using h1]
  show some _ = some x
  rw [trOf_get, if_neg (by omega), Nat.sub_zero, h]

/-- the block c holds just these cells -/
def RowAt (w : World) (c : Nat) (us : List Value) : Prop := ∃ (e : TypeId) (fr : Nat × Nat), w.heap[c]? = some (.cells us.toArray e fr) ∧ (fr.1 = fr.2 ∨ us.length ≤ fr.1)
theorem RowAt.cell {w : World} {c : Nat} {us : List Value} (h : RowAt w c us) (j : Nat) : w.cell? ⟨c, j, none⟩ = us[j]? := by
  obtain ⟨e, fr, h, _⟩ := h
  simp [World.cell?, h]
theorem RowAt.lt {w : World} {c : Nat} {us : List Value} (h : RowAt w c us) : c < w.heap.size := by
  obtain ⟨e, fr, h, _⟩ := h
  exact (Array.getElem?_eq_some_iff.1 h).1
theorem RowAt.of {w : World} {c : Nat} {us : List Value} {e : TypeId} (h : w.heap[c]? = some (.cells us.toArray e)) : RowAt w c us := ⟨e, (0, 0), h, .inl rfl⟩
theorem RowAt.same {w w' : World} {c : Nat} {us : List Value} (h : RowAt w c us) (k : w'.heap[c]? = w.heap[c]?) : RowAt w' c us := by
  obtain ⟨e, fr, h, h2⟩ := h
  exact ⟨e, fr, k.trans h, h2⟩
theorem RowAt.or {w : World} {c : Nat} {us : List Value} (h : RowAt w c us) {ν : Nm} {xs : List M} (hx : VRs ν xs us) : ∃ ob, w.heap[c]? = some ob ∧ OR ν (0, 0) (cellsL 0 .nilP xs) ob := by
  obtain ⟨e, fr, h, h2⟩ := h
  refine ⟨_, h, .cells _ _ _ _ _ _ _ ?_ ⟨fun _ => ?_, by simp⟩ (by simpa using h2) fun i x hi => ?_⟩
  · simp [hx.1]
  · simp [hx.1]
  · obtain ⟨v, h3, h4⟩ := hx.get (cellsL_at hi)
    exact ⟨v, by simpa using h3, h4⟩
theorem RowAt.ofOr {w : World} {c : Nat} {ob : Obj} (h : w.heap[c]? = some ob) {ν : Nm} {xs : List M} (ho : OR ν (0, 0) (cellsL 0 .nilP xs) ob) : ∃ us, RowAt w c us ∧ VRs ν xs us := by
  cases ho with
  | cells _ _ _ _ cs e fr hn hx hf hi =>
    have hsz := hx.1 rfl
    have key : ∀ (i : Nat) x, xs[i]? = some x → ∃ v, cs[i]? = some v ∧ VR ν x v := fun i x h => hi i x (cellsL_at' h)
    refine ⟨cs.toList, ⟨e, fr, by simpa using h, by simpa using hf⟩, by simpa using hsz.symm, fun i x v h1 h2 => ?_⟩
    obtain ⟨v', h3, h4⟩ := key i x h1
    have : cs[i]? = some v := by simpa using h2
    rw [h3] at this
    cases this
    exact h4

/-- blocks of cells: where they stand, what they hold -/
def hpL (xss : List (List M)) : Hp := ⟨xss.length, (List.range xss.length).foldr (fun i t => match xss[i]? with | some p => t.put i (cellsL 0 .nilP p) | none => t) .lf⟩
def nmL (cs : List Nat) : Nm := ⟨fun b => cs[b]?, fun _ => (0, 0)⟩
theorem hpL_aux (l : List (List M)) (b : Nat) : ∀ is : List Nat, (is.foldr (fun i t => match l[i]? with | some p => t.put i (cellsL 0 .nilP p) | none => t) Tr.lf).get b = if b ∈ is then (l[b]?).map (cellsL 0 .nilP) else none
  | [] => rfl
  | i :: is => by
    rw [List.foldr_cons]
    cases hi : l[i]? with
    | none =>
      simp only
      rw [hpL_aux l b is]
      by_cases e : b = i
      · subst e; simp [hi]
      · simp [e]
    | some p =>
      simp only
      rw [Tr.get_put, hpL_aux l b is]
      by_cases e : b = i
      · subst e; simp [hi]
      · simp [e]
theorem hpL_get (l : List (List M)) (b : Nat) : (hpL l).get b = (l[b]?).map (cellsL 0 .nilP) := by
  unfold hpL Hp.get
  rw [hpL_aux]
  by_cases h : b < l.length
  · rw [if_pos (List.mem_range.2 h)]
  · rw [if_neg (fun hm => h (List.mem_range.1 hm)), List.getElem?_eq_none (by omega)]; rfl
theorem WR.rows {C : Cfg} {base : Nat} {cs : List Nat} {xss : List (List M)} {w : World} (hg : Laid C w) (hgb : ∀ k cs, C.gobj k = some cs → k < base) (hbw : base ≤ w.heap.size) (hn : cs.Nodup) (hl : cs.length = xss.length)
    (h : ∀ (b c : Nat) (xs : List M), cs[b]? = some c → xss[b]? = some xs → base ≤ c ∧ ∃ us, RowAt w c us ∧ VRs (nmL cs) xs us) : WR C base (nmL cs) (hpL xss).get xss.length w := by
  refine ⟨fun b c hb => ?_, fun b o c h1 h2 h3 => ?_, fun b b' c _ _ h1 h2 => ?_, fun k cs hk => ?_, hbw, fun b o hb => ?_⟩
  · have hb : cs[b]? = some c := hb
    have hlt : b < xss.length := by rw [← hl]; exact (List.getElem?_eq_some_iff.1 hb).1
    obtain ⟨h1, us, h2, _⟩ := h b c _ hb (List.getElem?_eq_getElem hlt)
    exact ⟨hlt, h1, h2.lt⟩
  · have h3 : cs[b]? = some c := h3
    rw [hpL_get] at h1
    cases hx : xss[b]? with
    | none => rw [hx] at h1; cases h1
    | some xs =>
      rw [hx] at h1
      cases h1
      obtain ⟨_, us, h4, h5⟩ := h b c xs h3 hx
      exact h4.or h5
  · have q1 : cs[b]? = some c := h1
    have q2 : cs[b']? = some c := h2
    obtain ⟨r1, r2⟩ := List.getElem?_eq_some_iff.1 q1
    obtain ⟨r3, r4⟩ := List.getElem?_eq_some_iff.1 q2
    exact (List.getElem_inj hn).1 (r2.trans r4.symm)
  · obtain ⟨vs, e, fr, h1, h2⟩ := hg k cs hk
    exact ⟨hgb k cs hk, vs, e, fr, h1, h2⟩
  · rw [hpL_get] at hb
    cases hx : xss[b]? with
    | none => rw [hx] at hb; cases hb
    | some p => exact (List.getElem?_eq_some_iff.1 hx).1
/-- a closed run on such blocks: what it tells, and what the blocks hold behind it -/
def ranL (C : Cfg) (n : Nat) (f : FuncId) (args : List M) (xss : List (List M)) (y : M) (yss : List (List M)) : Bool := match evF C n f args (hpL xss) with
  | some (z, H) => M.beq z y && (yss.length == xss.length) && (List.range yss.length).all fun b => match yss[b]?, H.get b with
    | some ys, some o => Ob.beq o (cellsL 0 .nilP ys)
    | _, _ => false
  | none => false
/-- a call that runs so -/
theorem rows_call {C : Cfg} (hC : ∀ n, CallOk C (evF C n)) {f : FuncId} {F : Func} {c : Code} (hf : C.P.funcs[f]? = some F) (hname : (F.name == "runtime.NumGoroutine") = false) (hb : F.body = some c)
    {n : Nat} {args : List M} {xss yss : List (List M)} {y : M} (h : ranL C n f args xss y yss = true)
    {base : Nat} {cs : List Nat} {w : World} {vs : List Value} (hg : Laid C w) (hgb : ∀ k cs, C.gobj k = some cs → k < base) (hbw : base ≤ w.heap.size) (hn : cs.Nodup) (hl : cs.length = xss.length)
    (hr : ∀ (b c : Nat) (xs : List M), cs[b]? = some c → xss[b]? = some xs → base ≤ c ∧ ∃ us, RowAt w c us ∧ VRs (nmL cs) xs us) (hv : VRs (nmL cs) args vs) :
    Calls C.P f vs.toArray w fun e w' => ∃ v ν', e = .returned v ∧ VR ν' y v ∧ (∀ (b c : Nat), cs[b]? = some c → ν' b = some c) ∧ (∀ (b c : Nat) (ys : List M), cs[b]? = some c → yss[b]? = some ys → ∃ us, RowAt w' c us ∧ VRs ν' ys us) ∧
      (∀ k, k < w.heap.size → k ∉ cs → w'.heap[k]? = w.heap[k]?) ∧ w.heap.size ≤ w'.heap.size ∧ w'.os = w.os ∧ w'.tape = w.tape ∧ w'.output = w.output := by
  unfold ranL at h
  split at h
  · rename_i z H hev
    simp only [Bool.and_eq_true, beq_iff_eq] at h
    obtain ⟨⟨h1, h2⟩, h3⟩ := h
    have h1 := M.beq_eq h1
    subst h1
    have R := WR.rows hg hgb hbw hn hl hr
    rcases hC n f args (hpL xss) z H hev base (nmL cs) w vs R hv with ⟨v, w', ν', h4, _⟩ | ⟨_, h5⟩
    · rw [run_enter hf hname hb] at h4
      cases h4
    · refine h5.mono fun e w' ⟨v, ν', he, hv', R', T⟩ => ?_
      have hnm : ∀ (b c : Nat), cs[b]? = some c → ν' b = some c := fun b c hbc => by
        have hlt : b < xss.length := by rw [← hl]; exact (List.getElem?_eq_some_iff.1 hbc).1
        rw [(T.old b hlt).1]
        exact hbc
      refine ⟨v, ν', he, hv', hnm, fun b c ys hbc hys => ?_, fun k hk hkc => T.keep k hk fun b _ hbk => hkc (List.mem_of_getElem? hbk), T.size, T.rest.1, T.rest.2.1, T.rest.2.2⟩
      have h4 := List.all_eq_true.1 h3 b (List.mem_range.2 (List.getElem?_eq_some_iff.1 hys).1)
      rw [hys] at h4
      split at h4
      · rename_i ys' o e1 ho
        cases e1
        have ho' := Ob.beq_eq h4
        subst ho'
        obtain ⟨ob, g1, g2⟩ := R'.ob b _ c ho rfl (hnm b c hbc)
        rw [(T.old b (by show b < xss.length; rw [← hl]; exact (List.getElem?_eq_some_iff.1 hbc).1)).2] at g2
        exact RowAt.ofOr g1 g2
      · cases h4
  · cases h

theorem toVs_get : ∀ {l : List M} {us : List Value}, Me.toVs l = some us → ∀ (i : Nat) x, l[i]? = some x → ∃ u, us[i]? = some u ∧ Me.toV x = some u
  | [], us, _, i, x, h => by simp at h
  | y :: l, us, e, i, x, h => by
    unfold Me.toVs at e
    split at e
    · rename_i a b ha hb
      cases e
      match i, h with
      | 0, h => cases h; exact ⟨_, rfl, ha⟩
      | i + 1, h =>
        obtain ⟨u, h1, h2⟩ := toVs_get hb i x (by simpa using h)
        exact ⟨u, by simpa using h1, h2⟩
    · cases e
theorem vr_lit {ν : Nm} {l : List M} {us : List Value} (e : Me.toVs l = some us) {i : Nat} {x : M} (h : l[i]? = some x) {v v' : Value} (h1 : VR ν x v) (h2 : VR ν x v') : v = v' := by
  obtain ⟨u, _, hu⟩ := toVs_get e i x h
  rw [h1.toV hu, h2.toV hu]

/-- from off on the block c holds these cells; there is room for so many -/
def WinAt (w : World) (c off room : Nat) (us : List Value) : Prop := ∃ (cs : Array Value) (e : TypeId) (fr : Nat × Nat), w.heap[c]? = some (.cells cs e fr) ∧ us.length + off ≤ cs.size ∧ room + off ≤ cs.size ∧ (fr.1 = fr.2 ∨ cs.size ≤ fr.1) ∧ ∀ (i : Nat) v, us[i]? = some v → cs[i + off]? = some v
theorem WinAt.cell {w : World} {c off room : Nat} {us : List Value} (h : WinAt w c off room us) {j : Nat} {v : Value} (hv : us[j]? = some v) : w.cell? ⟨c, j + off, none⟩ = some v := by
  obtain ⟨cs, e, fr, h1, _, _, _, h2⟩ := h
  simp [World.cell?, h1, h2 j v hv]
theorem WinAt.lt {w : World} {c off room : Nat} {us : List Value} (h : WinAt w c off room us) : c < w.heap.size := by
  obtain ⟨cs, e, fr, h1, _⟩ := h
  exact (Array.getElem?_eq_some_iff.1 h1).1
theorem WinAt.same {w w' : World} {c off room : Nat} {us : List Value} (h : WinAt w c off room us) (k : w'.heap[c]? = w.heap[c]?) : WinAt w' c off room us := by
  obtain ⟨cs, e, fr, h1, h2⟩ := h
  exact ⟨cs, e, fr, k.trans h1, h2⟩
def hpW (xs : List M) : Hp := ⟨1, Tr.lf.put 0 (cellsL 1 .nilP xs)⟩
def nmW (c off room : Nat) : Nm := ⟨fun b => if b = 0 then some c else none, fun _ => (room, off)⟩
theorem hpW_get (xs : List M) (b : Nat) : (hpW xs).get b = if b = 0 then some (cellsL 1 .nilP xs) else none := by
  show (Tr.lf.put 0 _).get b = _
  rw [Tr.get_put]
  rfl
theorem WR.win {C : Cfg} {base c off room : Nat} {xs : List M} {us : List Value} {w : World} (hg : Laid C w) (hgb : ∀ k cs, C.gobj k = some cs → k < base) (hbw : base ≤ w.heap.size) (hc : base ≤ c) (h : WinAt w c off room us) (hx : VRs (nmW c off room) xs us) : WR C base (nmW c off room) (hpW xs).get 1 w := by
  have at0 : ∀ {b d : Nat}, (nmW c off room) b = some d → b = 0 ∧ d = c := fun {b d} hb => by
    have hb : (if b = 0 then some c else none) = some d := hb
    split at hb
    · rename_i e; cases hb; exact ⟨e, rfl⟩
    · cases hb
  refine ⟨fun b d hb => ?_, fun b o d h1 h2 h3 => ?_, fun b b' d _ _ h1 h2 => ?_, fun k cs hk => ?_, hbw, fun b o hb => ?_⟩
  · obtain ⟨rfl, rfl⟩ := at0 hb
    exact ⟨Nat.lt_succ_self _, hc, h.lt⟩
  · obtain ⟨rfl, rfl⟩ := at0 h3
    rw [hpW_get, if_pos rfl] at h1
    cases h1
    obtain ⟨cs, e, fr, q1, q2, q3, q4, q5⟩ := h
    refine ⟨_, q1, .cells _ _ _ _ _ _ _ ?_ ⟨fun h => (by cases h), ?_⟩ q4 fun i x hi => ?_⟩
    · rw [hx.1]; exact q2
    · show room * 1 + off ≤ _
      rw [Nat.mul_one]; exact q3
    · obtain ⟨v, h3, h4⟩ := hx.get (cellsL_at hi)
      exact ⟨v, q5 i v h3, h4⟩
  · rw [(at0 h1).1, (at0 h2).1]
  · obtain ⟨vs, e, fr, h1, h2⟩ := hg k cs hk
    exact ⟨hgb k cs hk, vs, e, fr, h1, h2⟩
  · rw [hpW_get] at hb
    split at hb
    · omega
    · cases hb
/-- a closed run on a window: what it tells; the window is as it was -/
def ranW (C : Cfg) (n : Nat) (f : FuncId) (args : List M) (xs : List M) (y : M) : Bool := match evF C n f args (hpW xs) with
  | some (z, H) => M.beq z y && (match H.get 0 with
    | some o => Ob.beq o (cellsL 1 .nilP xs)
    | none => false)
  | none => false
/-- a call that runs so -/
theorem win_call {C : Cfg} (hC : ∀ n, CallOk C (evF C n)) {f : FuncId} {F : Func} {c : Code} (hf : C.P.funcs[f]? = some F) (hname : (F.name == "runtime.NumGoroutine") = false) (hb : F.body = some c)
    {n : Nat} {args xs : List M} {us : List Value} {y : M} (h : ranW C n f args xs y = true) (hxs : Me.toVs xs = some us)
    {base B off room : Nat} {w : World} {vs : List Value} (hg : Laid C w) (hgb : ∀ k cs, C.gobj k = some cs → k < base) (hbw : base ≤ w.heap.size) (hB : base ≤ B)
    (hr : WinAt w B off room us) (hv : VRs (nmW B off room) args vs) :
    Calls C.P f vs.toArray w fun e w' => ∃ v ν', e = .returned v ∧ VR ν' y v ∧ WinAt w' B off room us ∧
      (∀ k, k < w.heap.size → k ≠ B → w'.heap[k]? = w.heap[k]?) ∧ w.heap.size ≤ w'.heap.size ∧ w'.os = w.os ∧ w'.tape = w.tape ∧ w'.output = w.output := by
  unfold ranW at h
  split at h
  · rename_i z H hev
    simp only [Bool.and_eq_true] at h
    obtain ⟨h1, h3⟩ := h
    have h1 := M.beq_eq h1
    subst h1
    have R := WR.win hg hgb hbw hB hr (vr_toVs hxs)
    rcases hC n f args (hpW xs) z H hev base (nmW B off room) w vs R hv with ⟨v, w', ν', h4, _⟩ | ⟨_, h5⟩
    · rw [run_enter hf hname hb] at h4
      cases h4
    · refine h5.mono fun e w' ⟨v, ν', he, hv', R', T⟩ => ?_
      obtain ⟨o1, o2⟩ := T.old 0 (Nat.lt_succ_self _)
      have hn0 : ν' 0 = some B := o1
      have hr0 : ν'.rm 0 = (room, off) := o2
      refine ⟨v, ν', he, hv', ?_, fun k hk hkc => T.keep k hk fun b _ hbk => ?_, T.size, T.rest.1, T.rest.2.1, T.rest.2.2⟩
      · split at h3
        · rename_i o ho
          have ho' := Ob.beq_eq h3
          subst ho'
          obtain ⟨ob, g1, g2⟩ := R'.ob 0 _ B ho rfl hn0
          rw [hr0] at g2
          cases g2 with
          | cells _ _ _ _ cs e fr hn hx hf hi =>
            have hvr := vr_toVs (ν := ν') hxs
            have hlen := hvr.1
            refine ⟨cs, e, fr, g1, ?_, ?_, hf, fun i v hv => ?_⟩
            · rw [← hlen]; exact hn
            · have := hx.2
              simpa using this
            · have hix : i < xs.length := by rw [hlen]; exact (List.getElem?_eq_some_iff.1 hv).1
              obtain ⟨v', q1, q2⟩ := hi i _ (cellsL_at' (List.getElem?_eq_getElem hix))
              have q3 := hvr.2 i _ v (List.getElem?_eq_getElem hix) hv
              have : v' = v := vr_lit hxs (List.getElem?_eq_getElem hix) q2 q3
              rw [this] at q1
              exact q1
        · cases h3
      · have hbk : (if b = 0 then some B else none) = some k := hbk
        split at hbk
        · cases hbk; exact hkc rfl
        · cases hbk
  · cases h
end Go.Me
