/- Values without what is not kept: plain facts. -/
import Derived.Test.YtnabebdceaoiiaaGreatDoorPrD
namespace Go.Proofs.YtnabebdceaoiiaaGreatDoor
open Go Go.Ev
set_option linter.unusedVariables false
set_option linter.unusedSimpArgs false
set_option maxHeartbeats 4000000

theorem xl : ∀ {l : List Ty} {d : Nat} {n : Int}, (chkTs d n l).2 = 0 → ∀ k ∈ l, ∃ n', (chkT d n' k).2 = 0
  | k :: r, d, n, h, x, hx => by
    rw [chkTs_cons] at h
    split at h
    · rename_i h1
      rw [h] at h1
      simp at h1
    · rename_i h1
      rcases List.mem_cons.1 hx with e | e
      · rw [e]; exact ⟨n, by simpa using h1⟩
      · exact xl h x e
theorem aic : ∀ (m : Nat) (t : Ty) (d : Nat) (n : Int), (chkT d n t).2 = 0 → goodT m t
  | 0, _, _, _, _ => trivial
  | m + 1, t, d, n, h => by
    rw [chkT_eq] at h
    split at h
    · cases h
    · split at h
      · rename_i h1
        simp only at h
        rw [h] at h1
        simp at h1
      · rename_i h1
        refine ⟨by simpa using h1, fun k hk => ?_⟩
        obtain ⟨n', h2⟩ := xl h k hk
        exact aic m k _ _ h2
theorem aiy {t : Ty} (h : rightT t = true) (m : Nat) : goodT m t := by
  unfold rightT at h
  simp only [Bool.and_eq_true, beq_iff_eq] at h
  exact aic m t 1 0 h.2
theorem jo : ∀ (m : Nat) (x : Va), x.size ≤ m → sameV x x = true
  | 0, x, h => by have := x.size_pos; omega
  | m + 1, x, h => by
    have key : ∀ l : List Va, (∀ k ∈ l, k.size ≤ m) → gp l l = true := by
      intro l
      induction l with
      | nil => intro _; rw [sameVs_nil]
      | cons k r ih =>
        intro hk
        rw [sameVs_cons, jo m k (hk k (by simp)), ih fun y hy => hk y (by simp [hy])]
        rfl
    rw [sameV_eq, key x.kids fun k hk => by have := Va.size_kid hk; omega]
    simp
theorem w8 : ∀ (m : Nat) (v : Va) (deep : Nat), fewV deep v < 1000 → fj m v
  | 0, _, _, _ => trivial
  | m + 1, v, deep, h => by
    have high : ∀ (r : List Va) (n : Int), 1000 ≤ n → ¬ fewVs (deep + 1) n r < 1000 := by
      intro r
      induction r with
      | nil => intro n hn h; rw [fewVs_nil] at h; omega
      | cons y r ih2 =>
        intro n hn h
        rw [fewVs_cons] at h
        have hb := fewV_bd _ y (deep + 1) (Nat.le_refl _)
        split at h
        · omega
        · exact ih2 _ (by omega) h
    have key : ∀ (r : List Va) (n : Int), 0 ≤ n → fewVs (deep + 1) n r < 1000 → ∀ k ∈ r, fewV (deep + 1) k < 1000 := by
      intro r
      induction r with
      | nil => intro n _ _ k hk; cases hk
      | cons y r ih =>
        intro n h0 h k hk
        rw [fewVs_cons] at h
        have hb := fewV_bd _ y (deep + 1) (Nat.le_refl _)
        split at h
        · omega
        · rcases List.mem_cons.1 hk with rfl | hk
          · apply Classical.byContradiction
            intro hl
            exact high r _ (by omega) h
          · exact ih _ (by omega) h k hk
    rw [fewV_eq] at h
    split at h
    · omega
    · rename_i hc
      simp only [Bool.or_eq_true, decide_eq_true_eq, not_or] at hc
      exact ⟨by omega, by omega, fun k hk => w8 m k (deep + 1) (key v.kids _ (by omega) h k hk)⟩

/-! columns as they are asked for -/
def cnR (n : Nde) : Cn := ⟨n.2.1, n.1.kind, n.2.2.1⟩
theorem xj : ∀ L : List Nde, cnsOf (L.map sigD) = some (L.map cnR)
  | [] => rfl
  | n :: r => by
    have h : cnOf (sigD n) = some (cnR n) := by
      show (l3 (n.2.1.map fun k => D.int .i64 (k : Nat))).map (fun l => (⟨l, n.1.kind, n.2.2.1⟩ : Cn)) = _
      rw [np]; rfl
    rw [List.map_cons, cnsOf, xj r, h]
    rfl
theorem iv (N : Nat) : ∀ (a b : List Cn) (i : Nat), cf N i (a ++ b) = (cf N i a && cf N (i + a.length) b)
  | [], b, i => by rw [cf]; simp
  | x :: a, b, i => by
    rw [List.cons_append, cf, cf, iv N a b (i + 1), List.length_cons, show i + 1 + a.length = i + (a.length + 1) by omega]
    simp only [Bool.and_assoc]
theorem zt (N i : Nat) (n : Cn) (r : List Cn) : cf N i (n :: r) = true ↔ (∀ k ∈ n.kids, i < k ∧ k < N) ∧ n.par < (i : Int) ∧ -1 ≤ n.par ∧ n.kids.length ≤ 1000000 ∧ cf N (i + 1) r = true := by
  simp only [cf, Bool.and_eq_true, decide_eq_true_eq, List.all_eq_true, and_assoc]
theorem aht : ∀ (l : List Ty) (i k : Nat), k ∈ kidAt i l → i ≤ k ∧ k < i + Ty.sizes l
  | [], i, k, h => by cases h
  | y :: l, i, k, h => by
    have hy := y.size_pos
    rw [kidAt] at h
    rw [Ty.sizes]
    rcases List.mem_cons.1 h with rfl | h
    · omega
    · have := aht l _ k h
      omega
theorem aao (N : Nat) (hN : N ≤ 10000) : (∀ (t : Ty) (i : Nat) (p q : Int), p < (i : Int) → -1 ≤ p → i + t.size ≤ N → cf N i ((flatR i p q t).map cnR) = true)
  | .mk k ns ks l pr s, i, p, q, h1, h2, h3 => by
    have hk := aao.flats_ok N hN ks (i + 1) i (q + 1) (by omega)
    have hl := gk ks
    rw [Ty.size] at h3
    rw [jd, List.map_cons, zt]
    refine ⟨fun x hx => ?_, h1, h2, ?_, hk (by omega)⟩
    · have hx : x ∈ kidAt (i + 1) ks := hx
      have := aht _ _ x hx
      exact ⟨by omega, by omega⟩
    · show (kidAt (i + 1) ks).length ≤ 1000000
      rw [bj]; omega
where flats_ok (N : Nat) (hN : N ≤ 10000) : ∀ (ks : List Ty) (i par : Nat) (q : Int), par < i → i + Ty.sizes ks ≤ N → cf N i ((bh i par q ks).map cnR) = true
  | [], i, par, q, h1, h2 => by rw [bh]; rfl
  | k :: r, i, par, q, h1, h2 => by
    rw [Ty.sizes] at h2
    rw [bh, List.map_append, iv, aao N hN k i par q (by omega) (by omega) (by omega), List.length_map, bt, flats_ok N hN r (i + k.size) par q (by omega) (by omega)]
    rfl

/-! what is right of a value stays -/
theorem x6 {t : Ty} {v : Va} (h : ba t v = 0) (hn : v.null = false) (hk : t.kind = 12) : v.i = 0 ∧ v.n = 0 ∧ v.b = [] ∧ v.kids.length = t.kids.length := by
  unfold ba at h
  rw [hn] at h
  simp only [Bool.false_eq_true, if_false] at h
  split at h
  · cases h
  rename_i h1
  split at h
  · cases h
  simp only [Bool.or_eq_true, not_or, Bool.and_eq_true, not_and, decide_eq_true_eq, Bool.not_eq_true', Bool.not_eq_false, Bool.not_eq_true] at h1
  obtain ⟨⟨h2, h3⟩, _⟩ := h1
  unfold numsM js at h2
  unfold ln at h
  simp only [hk] at h2 h h3
  have ht : textK 12 = false := by decide
  simp at h2 h
  refine ⟨by omega, by omega, ?_, by omega⟩
  cases hb : v.b with
  | nil => rfl
  | cons c r => rw [hb, ht] at h3; simp at h3
theorem q6 {t : Ty} {vi : Int} (hk : t.kind = 12) : ∀ (l : List Va) (j : Nat), gq t vi j l = 0 → j + l.length ≤ t.kids.length → ∀ (i : Nat) u, l[i]? = some u → ∃ y, t.kids[j + i]? = some y ∧ rchkV y u = 0
  | [], j, _, _, i, u, hu => by simp at hu
  | k :: r, j, h, hl, i, u, hu => by
    rw [List.length_cons] at hl
    obtain ⟨y, hy⟩ : ∃ y, t.kids[j]? = some y := ⟨_, List.getElem?_eq_getElem (by omega)⟩
    have hkt : kidT t vi j = some y := by unfold kidT; simp only [hk]; exact hy
    rw [rchkVs_cons, hkt, hk] at h
    simp only [show ((12 : Int) == 11) = false from rfl, Bool.false_and, Bool.false_eq_true, if_false] at h
    split at h
    · rename_i hx; rw [h] at hx; simp at hx
    · rename_i hx
      have hx0 : rchkV y k = 0 := by simpa using hx
      cases i with
      | zero =>
        simp only [List.getElem?_cons_zero, Option.some.injEq] at hu
        subst hu
        exact ⟨y, hy, hx0⟩
      | succ i =>
        have := q6 hk r (j + 1) h (by omega) i u (by simpa using hu)
        rw [show j + (i + 1) = j + 1 + i by omega]
        exact this
theorem lr {t : Ty} {v : Va} (h : rchkV t v = 0) (hn : v.null = false) (hk : t.kind = 12) : v.i = 0 ∧ v.n = 0 ∧ v.b = [] ∧ v.kids.length = t.kids.length ∧ ∀ (i : Nat) u, v.kids[i]? = some u → ∃ y, t.kids[i]? = some y ∧ rchkV y u = 0 := by
  rw [rchkV_eq] at h
  split at h
  · rename_i hx; rw [h] at hx; simp at hx
  · rename_i hx
    have h0 : ba t v = 0 := by simpa using hx
    obtain ⟨a, b, c, d⟩ := x6 h0 hn hk
    rw [hn] at h
    simp only [Bool.false_eq_true, if_false] at h
    refine ⟨a, b, c, d, fun i u hu => ?_⟩
    have := q6 hk v.kids 0 h (by omega) i u hu
    rwa [Nat.zero_add] at this
theorem ahm (keep : List Bool) : ∀ (m : Nat) (t : Ty) (p : Nat) (v : Va), t.size ≤ m → rchkV t v = 0 → projV false keep p t v = projV true keep p t v
  | 0, t, p, v, h, _ => by have := t.size_pos; omega
  | m + 1, t, p, v, h, hc => by
    rw [projV_eq, projV_eq]
    cases hn : v.null with
    | true => rfl
    | false =>
      rw [Bool.false_or]
      split
      · rfl
      · rename_i hk
        have hk12 : t.kind = 12 := by simpa using hk
        obtain ⟨a, b, _, _, hs⟩ := lr hc hn hk12
        rw [a, b]
        have key : ∀ (ks : List Ty) (vs : List Va) (q : Nat), (∀ k ∈ ks, k.size ≤ m) → (∀ (i : Nat) u, vs[i]? = some u → ∃ y, ks[i]? = some y ∧ rchkV y u = 0) → bg false keep q ks vs = bg true keep q ks vs := by
          intro ks
          induction ks with
          | nil => intro vs q _ _; rw [projVs_nil, projVs_nil]
          | cons k r ih =>
            intro vs q hk hs
            cases vs with
            | nil => rw [projVs_nil2, projVs_nil2]
            | cons u vs =>
              obtain ⟨y, hy, hyu⟩ := hs 0 u rfl
              cases hy
              rw [projVs_cons, projVs_cons, ahm keep m k q u (hk k (by simp)) hyu, ih vs (q + k.size) (fun x hx => hk x (by simp [hx])) fun i u hu => by simpa using hs (i + 1) u (by simpa using hu)]
        rw [key t.kids v.kids (p + 1) (fun k hk => by have := Ty.size_kid hk; omega) hs]
        rfl
theorem ahn (keep : List Bool) (N : Nat) (hall : ∀ q, q < N → keep.getD q false = true) : ∀ (m : Nat) (t : Ty) (p : Nat) (v : Va), t.size ≤ m → p + t.size ≤ N → rchkV t v = 0 → projV false keep p t v = v
  | 0, t, p, v, h, _, _ => by have := t.size_pos; omega
  | m + 1, t, p, v, h, hp, hc => by
    rw [projV_eq]
    cases hn : v.null with
    | true => rfl
    | false =>
      rw [Bool.false_or]
      split
      · rfl
      · rename_i hk
        have hk12 : t.kind = 12 := by simpa using hk
        obtain ⟨a, b, c, d, hs⟩ := lr hc hn hk12
        have key : ∀ (ks : List Ty) (vs : List Va) (q : Nat), (∀ k ∈ ks, k.size ≤ m) → q + Ty.sizes ks ≤ N → vs.length = ks.length → (∀ (i : Nat) u, vs[i]? = some u → ∃ y, ks[i]? = some y ∧ rchkV y u = 0) → bg false keep q ks vs = vs := by
          intro ks
          induction ks with
          | nil => intro vs q _ _ hl _; rw [projVs_nil, List.eq_nil_of_length_eq_zero hl]
          | cons k r ih =>
            intro vs q hk hq hl hs
            cases vs with
            | nil => cases hl
            | cons u vs =>
              obtain ⟨y, hy, hyu⟩ := hs 0 u rfl
              cases hy
              rw [Ty.sizes] at hq
              have hkp := k.size_pos
              rw [projVs_cons, hall q (by omega), if_pos rfl, ahn keep N hall m k q u (hk k (by simp)) (by omega) hyu, ih vs (q + k.size) (fun x hx => hk x (by simp [hx])) (by omega) (by simpa using hl) fun i u hu => by simpa using hs (i + 1) u (by simpa using hu)]
        have hsz := t.size_eq
        rw [key t.kids v.kids (p + 1) (fun k hk => by have := Ty.size_kid hk; omega) (by omega) d hs]
        cases v with
        | mk nl i n b ks =>
          simp only [Va.null, Va.i, Va.n, Va.b, Va.kids] at *
          simp [hn, c]
theorem aho (z : Bool) (keep : List Bool) : ∀ (m : Nat) (t : Ty) (p : Nat) (v : Va), t.size ≤ m → okV v → okV (projV z keep p t v)
  | 0, t, p, v, h, _ => by have := t.size_pos; omega
  | m + 1, t, p, v, h, hv => by
    rw [projV_eq]
    split
    · exact hv
    · obtain ⟨h1, h2, h3, h4⟩ := (okV_eq v).1 hv
      have key : ∀ (ks : List Ty) (vs : List Va) (q : Nat), (∀ k ∈ ks, k.size ≤ m) → okVs vs → okVs (bg z keep q ks vs) ∧ (bg z keep q ks vs).length ≤ vs.length := by
        intro ks
        induction ks with
        | nil => intro vs q _ _; rw [projVs_nil]; exact ⟨trivial, Nat.zero_le _⟩
        | cons k r ih =>
          intro vs q hk hv
          cases vs with
          | nil => rw [projVs_nil2]; exact ⟨trivial, Nat.le_refl _⟩
          | cons u vs =>
            obtain ⟨i1, i2⟩ := ih vs (q + k.size) (fun x hx => hk x (by simp [hx])) hv.2
            rw [projVs_cons]
            split
            · exact ⟨⟨aho z keep m k q u (hk k (by simp)) hv.1, i1⟩, by simp only [List.length_cons]; omega⟩
            · exact ⟨i1, by simp only [List.length_cons]; omega⟩
      obtain ⟨k1, k2⟩ := key t.kids v.kids (p + 1) (fun k hk => by have := Ty.size_kid hk; omega) h4
      refine (okV_eq _).2 ⟨?_, by show ([] : Tx).length < _; decide, by show (bg z keep (p + 1) t.kids v.kids).length < _; omega, k1⟩
      show inI (if z = true then 0 else v.i)
      split
      · unfold inI; omega
      · exact h1
end Go.Proofs.YtnabebdceaoiiaaGreatDoor
