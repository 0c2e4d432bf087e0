/- FileWrong: errors asked, types held: as calls. Own work. -/
import Derived.Test.YtinnmaeeeohkeaaGreatDoorFwJ
namespace Go.Proofs.YtinnmaeeeohkeaaGreatDoor
open Go Go.RowKit Go.Me
set_option linter.unusedVariables false
set_option linter.unusedSimpArgs false
set_option maxRecDepth 100000

/-- as rows_call; the blocks have kept their beginning -/
theorem rows_call2 {C : Cfg} (hC : ∀ n, CallOk C (evF C n)) {f : FuncId} {F : Func} {c : Code} (hf : C.P.funcs[f]? = some F) (hname : (F.name == "runtime.NumGoroutine") = false) (hb : F.body = some c)
    {n : Nat} {args : List M} {xss yss : List (List M)} {y : M} (h : ranL C n f args xss y yss = true)
    {base : Nat} {cs : List Nat} {w : World} {vs : List Value} (hg : Laid C w) (hgb : ∀ k cs, C.gobj k = some cs → k < base) (hbw : base ≤ w.heap.size) (hn : cs.Nodup) (hl : cs.length = xss.length)
    (hr : ∀ (b c : Nat) (xs : List M), cs[b]? = some c → xss[b]? = some xs → base ≤ c ∧ ∃ us, RowAt w c us ∧ VRs (nmL cs) xs us) (hv : VRs (nmL cs) args vs) :
    Calls C.P f vs.toArray w fun e w' => ∃ v ν', e = .returned v ∧ VR ν' y v ∧ (∀ (b c : Nat), cs[b]? = some c → ν' b = some c ∧ ν'.rm b = (0, 0)) ∧ (∀ (b c : Nat) (ys : List M), cs[b]? = some c → yss[b]? = some ys → ∃ us, RowAt w' c us ∧ VRs ν' ys us) ∧
      (∀ k, k < w.heap.size → k ∉ cs → w'.heap[k]? = w.heap[k]?) ∧ w.heap.size ≤ w'.heap.size ∧ w'.os = w.os ∧ w'.tape = w.tape ∧ w'.output = w.output := by
  unfold ranL at h
  split at h
  · rename_i z H hev
    simp only [Bool.and_eq_true, beq_iff_eq] at h
    obtain ⟨⟨h1, h2⟩, h3⟩ := h
    have h1 := M.beq_eq h1
    subst h1
    have R := WR.rows hg hgb hbw hn hl hr
    rcases hC n f args (hpL xss) z H hev base (nmL cs) w vs R hv with ⟨v, w', ν', h4, _⟩ | ⟨_, h5⟩
    · rw [run_enter hf hname hb] at h4
      cases h4
    · refine h5.mono fun e w' ⟨v, ν', he, hv', R', T⟩ => ?_
      have hnm : ∀ (b c : Nat), cs[b]? = some c → ν' b = some c ∧ ν'.rm b = (0, 0) := fun b c hbc => by
        have hlt : b < xss.length := by rw [← hl]; exact (List.getElem?_eq_some_iff.1 hbc).1
        refine ⟨?_, (T.old b hlt).2⟩
        rw [(T.old b hlt).1]
        exact hbc
      refine ⟨v, ν', he, hv', hnm, fun b c ys hbc hys => ?_, fun k hk hkc => T.keep k hk fun b _ hbk => hkc (List.mem_of_getElem? hbk), T.size, T.rest.1, T.rest.2.1, T.rest.2.2⟩
      have h4 := List.all_eq_true.1 h3 b (List.mem_range.2 (List.getElem?_eq_some_iff.1 hys).1)
      rw [hys] at h4
      split at h4
      · rename_i ys' o e1 ho
        cases e1
        have ho' := Ob.beq_eq h4
        subst ho'
        obtain ⟨ob, g1, g2⟩ := R'.ob b _ c ho rfl (hnm b c hbc).1
        rw [(T.old b (by show b < xss.length; rw [← hl]; exact (List.getElem?_eq_some_iff.1 hbc).1)).2] at g2
        exact RowAt.ofOr g1 g2
      · cases h4
  · cases h
/-! types held -/
theorem ran_struct : ranL cfg0 300 47 [.agg [.int .i64 12, .sl 0 0 1 (some 1), .sl 1 0 1 (some 1), .int .i64 0, .int .i64 0, .int .i64 0]] [[.str [97]], [.int .i64 1, .nilS, .nilS, .int .i64 0, .int .i64 0, .int .i64 0]] (.int .i64 0) [[.str [97]], [.int .i64 1, .nilS, .nilS, .int .i64 0, .int .i64 0, .int .i64 0]] = true := by kernel_rfl
theorem ran_double : ranL cfg0 300 47 [.agg [.int .i64 6, .nilS, .nilS, .int .i64 0, .int .i64 0, .int .i64 0]] [] (.int .i64 5) [] = true := by kernel_rfl
abbrev nmL1 : List Value := [.string ⟨[97].toArray⟩]
abbrev tyL1 : List Value := [.int .i64 1, .slice none 0 0, .slice none 0 0, .int .i64 0, .int .i64 0, .int .i64 0]
/-- the type and the rows stand -/
structure StT (N : Nat) (rs : Value) (xs : List Int) (w : World) : Prop where
  nm : RowAt w N nmL1
  ty : RowAt w (N + 1) tyL1
  rows : RowsAt [N, N + 1] w rs xs
theorem StT.grown {N : Nat} {rs : Value} {xs : List Int} : ∀ a b : World, StT N rs xs a → a.grownBy b none → StT N rs xs b := fun a b h g =>
  ⟨h.nm.same (g.block _ h.nm.lt (by simp)), h.ty.same (g.block _ h.ty.lt (by simp)), h.rows.mov (.grown g)⟩
theorem StT.tyAt {N : Nat} {rs : Value} {xs : List Int} {w : World} (h : StT N rs xs w) : TyAt w (N + 1) := ⟨h.ty.cell 0, h.ty.cell 1, h.ty.cell 2, h.ty.cell 3, h.ty.cell 4, h.ty.cell 5⟩
theorem tcheck (N : Nat) (rs : Value) (xs : List Int) (w : World) (h : StT N rs xs w) : Calls Tryz.prog 47 #[.agg #[.int .i64 12, .slice (some ⟨N, 0, none⟩) 1 1, .slice (some ⟨N + 1, 0, none⟩) 1 1, .int .i64 0, .int .i64 0, .int .i64 0]] w fun e w' => e = .returned (.int .i64 0) ∧ Mov [N, N + 1] w w' ∧ StT N rs xs w' := by
  obtain ⟨c, hc⟩ : ∃ c, Tryz.f47.body = some c := Option.isSome_iff_exists.1 (by kernel_rfl)
  refine (rows_call (C := cfg0) call0 Tryz.func47 (by kernel_rfl) hc ran_struct (base := 0) (cs := [N, N + 1]) (vs := [.agg #[.int .i64 12, .slice (some ⟨N, 0, none⟩) 1 1, .slice (some ⟨N + 1, 0, none⟩) 1 1, .int .i64 0, .int .i64 0, .int .i64 0]]) (noLaid w) (fun k cs h => by cases h) (Nat.zero_le _) (by simp) rfl (fun b c xs h1 h2 => ?_) (.cons (VR.agg' (.cons (.int _ _) (.cons ?_ (.cons ?_ (.cons (.int _ _) (.cons (.int _ _) (.cons (.int _ _) .nil))))))) .nil)).mono ?_
  · match b, h1, h2 with
    | 0, h1, h2 => cases h1; cases h2; exact ⟨Nat.zero_le _, _, h.nm, vr_toVs rfl⟩
    | 1, h1, h2 => cases h1; cases h2; exact ⟨Nat.zero_le _, _, h.ty, vr_toVs rfl⟩
    | b + 2, h1, h2 => simp at h1
  · exact .sl 0 0 1 _ N 1 rfl (Nat.le_refl _) (fun m hm => by cases hm; rfl) (fun h => by cases h)
  · exact .sl 1 0 1 _ (N + 1) 1 rfl (Nat.le_refl _) (fun m hm => by cases hm; rfl) (fun h => by cases h)
  rintro e w' ⟨v, ν', rfl, hv, hn, hr, hk, hs, h1, h2, h3⟩
  cases hv
  have m : Mov [N, N + 1] w w' := ⟨h1, h2, h3, hs, hk⟩
  obtain ⟨us, r1, r2⟩ := hr 0 N _ rfl rfl
  obtain ⟨us', r3, r4⟩ := hr 1 (N + 1) _ rfl rfl
  have e1 := VRs.toVs r2 (us := nmL1) rfl
  have e2 := VRs.toVs r4 (us := tyL1) rfl
  subst e1
  subst e2
  exact ⟨rfl, m, r1, r3, h.rows.mov m⟩
theorem tcheckD (w : World) (h : True) : Calls Tryz.prog 47 #[.agg #[.int .i64 6, .slice none 0 0, .slice none 0 0, .int .i64 0, .int .i64 0, .int .i64 0]] w fun e w' => e = .returned (.int .i64 5) ∧ Mov [] w w' ∧ True := by
  obtain ⟨c, hc⟩ : ∃ c, Tryz.f47.body = some c := Option.isSome_iff_exists.1 (by kernel_rfl)
  refine (rows_call (C := cfg0) call0 Tryz.func47 (by kernel_rfl) hc ran_double (base := 0) (cs := []) (vs := [.agg #[.int .i64 6, .slice none 0 0, .slice none 0 0, .int .i64 0, .int .i64 0, .int .i64 0]]) (noLaid w) (fun k cs h => by cases h) (Nat.zero_le _) (by simp) rfl (fun b c xs h1 h2 => by simp at h1) (.cons (vr_toV rfl) .nil)).mono ?_
  rintro e w' ⟨v, ν', rfl, hv, hn, hr, hk, hs, h1, h2, h3⟩
  cases hv
  exact ⟨rfl, ⟨h1, h2, h3, hs, hk⟩, trivial⟩

/-! errors asked -/
abbrev fltL (s : List UInt8) (i g : Nat) : List Value := [.string ⟨s.toArray⟩, .int .i64 (Int.ofNat i), .iface 46 (.int .i64 (Int.ofNat g))]
abbrev prtL (s : List UInt8) (i : Nat) : List Value := [.string ⟨s.toArray⟩, .int .i64 (Int.ofNat i), .int .i64 0]
theorem laidE {w w' : World} (h : Laid cfgE w) (h0 : 0 < w.heap.size) (B : Below w.heap.size w w') : Laid cfgE w' := fun k cs hk => by
  have : k = 0 := by
    have hk : gE k = some cs := hk
    unfold gE at hk
    split at hk
    · assumption
    · cases hk
  subst this
  obtain ⟨vs, e, fr, h1, h2⟩ := h 0 cs hk
  exact ⟨vs, e, fr, (B.block 0 h0).trans h1, h2⟩
theorem gE_lt {w : World} (h0 : 0 < w.heap.size) : ∀ k cs, cfgE.gobj k = some cs → k < w.heap.size := fun k cs hk => by
  have hk : gE k = some cs := hk
  unfold gE at hk
  split at hk
  · omega
  · cases hk
theorem mov_of {X : List Nat} {w w' : World} (hk : ∀ k, k < w.heap.size → k ∉ X → w'.heap[k]? = w.heap[k]?) (hs : w.heap.size ≤ w'.heap.size) (h1 : w'.os = w.os) (h2 : w'.tape = w.tape) (h3 : w'.output = w.output) : Mov X w w' := ⟨h1, h2, h3, hs, hk⟩
theorem tells_calls (s : List UInt8) (i g : Nat) (hb : tellsB s i g = true) (base F P : Nat) (w : World) (hL : Laid cfgE w) (hg : ∀ k cs, cfgE.gobj k = some cs → k < base) (hF : base ≤ F) (hP : base ≤ P) (hne : F ≠ P) (r1 : RowAt w F (fltL s i g)) (r2 : RowAt w P (prtL s i)) :
    Calls Tryz.prog 8 #[.iface 44 (.pointer (some ⟨F, 0, none⟩)), .slice (some ⟨P, 0, none⟩) 1 1, .int .i64 (Int.ofNat g)] w fun e w' => e = .returned (.bool true) ∧ Mov [F, P] w w' ∧ RowAt w' F (fltL s i g) := by
  obtain ⟨c, hc⟩ : ∃ c, Tryz.f8.body = some c := Option.isSome_iff_exists.1 (by kernel_rfl)
  refine (rows_call (C := cfgE) callE Tryz.func8 (by kernel_rfl) hc hb (base := base) (cs := [F, P]) (vs := [.iface 44 (.pointer (some ⟨F, 0, none⟩)), .slice (some ⟨P, 0, none⟩) 1 1, .int .i64 (Int.ofNat g)]) hL hg (Nat.le_trans hF (Nat.le_of_lt r1.lt)) (by simp [hne]) rfl (fun b c xs h1 h2 => ?_) (.cons (.ifc _ _ _ (.ptr 0 0 F rfl)) (.cons (.sl 1 0 1 _ P 1 rfl (Nat.le_refl _) (fun m hm => by cases hm; rfl) (fun h => by cases h)) (.cons (.int _ _) .nil)))).mono ?_
  · match b, h1, h2 with
    | 0, h1, h2 => cases h1; cases h2; exact ⟨hF, _, r1, vr_toVs rfl⟩
    | 1, h1, h2 => cases h1; cases h2; exact ⟨hP, _, r2, vr_toVs rfl⟩
    | b + 2, h1, h2 => simp at h1
  rintro e w' ⟨v, ν', rfl, hv, hn, hr, hk, hs, h1, h2, h3⟩
  cases hv
  obtain ⟨us, q1, q2⟩ := hr 0 F _ rfl rfl
  have e1 := VRs.toVs q2 (us := fltL s i g) rfl
  subst e1
  exact ⟨rfl, mov_of hk hs h1 h2 h3, q1⟩
theorem is_calls (s : List UInt8) (i g : Nat) (hb : isB s i g = true) (base F : Nat) (w : World) (hL : Laid cfgE w) (hg : ∀ k cs, cfgE.gobj k = some cs → k < base) (hF : base ≤ F) (r1 : RowAt w F (fltL s i g)) :
    Calls Tryz.prog 9 #[.iface 44 (.pointer (some ⟨F, 0, none⟩)), .iface 46 (.int .i64 (Int.ofNat g))] w fun e w' => e = .returned (.bool true) ∧ Mov [F] w w' ∧ RowAt w' F (fltL s i g) := by
  obtain ⟨c, hc⟩ : ∃ c, Tryz.f9.body = some c := Option.isSome_iff_exists.1 (by kernel_rfl)
  refine (rows_call (C := cfgE) callE Tryz.func9 (by kernel_rfl) hc hb (base := base) (cs := [F]) (vs := [.iface 44 (.pointer (some ⟨F, 0, none⟩)), .iface 46 (.int .i64 (Int.ofNat g))]) hL hg (Nat.le_trans hF (Nat.le_of_lt r1.lt)) (by simp) rfl (fun b c xs h1 h2 => ?_) (.cons (.ifc _ _ _ (.ptr 0 0 F rfl)) (.cons (.ifc _ _ _ (.int _ _)) .nil))).mono ?_
  · match b, h1, h2 with
    | 0, h1, h2 => cases h1; cases h2; exact ⟨hF, _, r1, vr_toVs rfl⟩
    | b + 1, h1, h2 => simp at h1
  rintro e w' ⟨v, ν', rfl, hv, hn, hr, hk, hs, h1, h2, h3⟩
  cases hv
  obtain ⟨us, q1, q2⟩ := hr 0 F _ rfl rfl
  have e1 := VRs.toVs q2 (us := fltL s i g) rfl
  subst e1
  exact ⟨rfl, mov_of hk hs h1 h2 h3, q1⟩
theorem as_calls (s : List UInt8) (i g : Nat) (hb : asB s i g = true) (base F V : Nat) (w : World) (hL : Laid cfgE w) (hg : ∀ k cs, cfgE.gobj k = some cs → k < base) (hF : base ≤ F) (hV : base ≤ V) (hne : F ≠ V) (r1 : RowAt w F (fltL s i g)) (r2 : RowAt w V [.pointer none]) :
    Calls Tryz.prog 10 #[.iface 44 (.pointer (some ⟨F, 0, none⟩)), .iface 48 (.pointer (some ⟨V, 0, none⟩))] w fun e w' => e = .returned (.bool true) ∧ Mov [F, V] w w' ∧ RowAt w' F (fltL s i g) ∧ RowAt w' V [.pointer (some ⟨F, 0, none⟩)] := by
  obtain ⟨c, hc⟩ : ∃ c, Tryz.f10.body = some c := Option.isSome_iff_exists.1 (by kernel_rfl)
  refine (rows_call2 (C := cfgE) callE Tryz.func10 (by kernel_rfl) hc hb (base := base) (cs := [F, V]) (vs := [.iface 44 (.pointer (some ⟨F, 0, none⟩)), .iface 48 (.pointer (some ⟨V, 0, none⟩))]) hL hg (Nat.le_trans hF (Nat.le_of_lt r1.lt)) (by simp [hne]) rfl (fun b c xs h1 h2 => ?_) (.cons (.ifc _ _ _ (.ptr 0 0 F rfl)) (.cons (.ifc _ _ _ (.ptr 1 0 V rfl)) .nil))).mono ?_
  · match b, h1, h2 with
    | 0, h1, h2 => cases h1; cases h2; exact ⟨hF, _, r1, vr_toVs rfl⟩
    | 1, h1, h2 => cases h1; cases h2; exact ⟨hV, _, r2, vr_toVs rfl⟩
    | b + 2, h1, h2 => simp at h1
  rintro e w' ⟨v, ν', rfl, hv, hn, hr, hk, hs, h1, h2, h3⟩
  cases hv
  obtain ⟨us, q1, q2⟩ := hr 0 F _ rfl rfl
  obtain ⟨us', q3, q4⟩ := hr 1 V _ rfl rfl
  have e1 := VRs.toVs q2 (us := fltL s i g) rfl
  subst e1
  obtain ⟨u, r, rfl, g1, g2⟩ := q4.inv_cons
  obtain rfl := g2.inv_nil
  cases g1 with | ptr _ _ c' hc' =>
  have := (hn 0 F rfl).1
  rw [hc'] at this
  cases this
  rw [(hn 0 F rfl).2] at q3
  exact ⟨rfl, mov_of hk hs h1 h2 h3, q1, q3⟩
theorem FaultAt.row {w : World} {F : Nat} {s : List UInt8} {i g : Nat} (h : FaultAt w F s (Int.ofNat i) (Int.ofNat g)) : RowAt w F (fltL s i g) := RowAt.of h.at_
end Go.Proofs.YtinnmaeeeohkeaaGreatDoor
