/- FileWrong, walked. Own work. -/
import Derived.Test.YtinnmaeeeohkeaaGreatDoorFwL
import Derived.Maps.AppendAt
namespace Go.Proofs.YtinnmaeeeohkeaaGreatDoor
open Go Go.RowKit Go.Me
set_option linter.unusedVariables false
set_option linter.unusedSimpArgs false
set_option maxRecDepth 100000


theorem numAt_bad {aa n : Nat} {v : Int} (ha : aa < n) : (nums aa v n)[aa]? = some v := by rw [nums_get ha]; simp [numAt]
theorem numAt_good {aa n : Nat} {v : Int} (ha : aa < n) (hn : n ≤ 50) : ∀ (i : Nat) x, i < aa → (nums aa v n)[i]? = some x → fits x = 0 := fun i x hi hx => by
  rw [nums_get (by omega)] at hx
  have h : numAt aa v i = i := if_neg (by omega)
  rw [h] at hx
  cases hx
  exact if_pos (by omega)
theorem fits_bad {v : Int} (hv : v < -128 ∨ 127 < v) : fits v = 1 := if_neg (by omega)
theorem write_options (N : Nat) (rs : Value) (xs : List Int) (a b c d e f : Int) (hg : told a b c d e f ≠ 0) (w : World) (h : StT N rs xs w) : Calls Tryz.prog 5 #[tyS (.slice (some ⟨N, 0, none⟩) 1 1) (.slice (some ⟨N + 1, 0, none⟩) 1 1), rs, .slice none 0 0, .agg #[.int .i64 a, .int .i64 b, .int .i64 c, .int .i64 d, .int .i64 e, .int .i64 f]] w fun e' w' => ∃ F, e' = .returned (.tuple #[.slice none 0 0, .iface 44 (.pointer (some ⟨F, 0, none⟩))]) ∧ Mov [N, N + 1] w w' ∧ StT N rs xs w' ∧ w.heap.size ≤ F ∧ FaultAt w' F [111, 112, 116, 105, 111, 110, 115] 0 (told a b c d e f) :=
  write_bad [N, N + 1] (StT N rs xs) StT.grown 12 _ _ rs _ _ _ a b c d e f (fun w hX h0 => check_options _ _ StT.grown 12 _ _ _ 0 rfl (tcheck N rs xs) a b c d e f hg w hX h0) w (fun x hx => by
    have := h.ty.lt
    simp at hx
    omega) h
theorem write_row (N R cap : Nat) (aa n : Nat) (v : Int) (ha : aa < n) (hn : n ≤ 50) (hv : v < -128 ∨ 127 < v) (a b c d e f : Int) (hg : told a b c d e f = 0) (w : World) (h : StT N (.slice (some ⟨R, 0, none⟩) n cap) (nums aa v n) w) : Calls Tryz.prog 5 #[tyS (.slice (some ⟨N, 0, none⟩) 1 1) (.slice (some ⟨N + 1, 0, none⟩) 1 1), .slice (some ⟨R, 0, none⟩) n cap, .slice none 0 0, .agg #[.int .i64 a, .int .i64 b, .int .i64 c, .int .i64 d, .int .i64 e, .int .i64 f]] w fun e' w' => ∃ F, e' = .returned (.tuple #[.slice none 0 0, .iface 44 (.pointer (some ⟨F, 0, none⟩))]) ∧ Mov [N, N + 1] w w' ∧ StT N (.slice (some ⟨R, 0, none⟩) n cap) (nums aa v n) w' ∧ w.heap.size ≤ F ∧ FaultAt w' F [114, 111, 119] aa 1 :=
  write_bad [N, N + 1] (StT N (.slice (some ⟨R, 0, none⟩) n cap) (nums aa v n)) StT.grown 12 _ _ _ _ _ _ a b c d e f (fun w hX h0 => check_row _ _ StT.grown 12 _ _ _ 0 rfl (tcheck N _ _) _ _ (fun w hw => by
    have h1 := checkRows_calls (.slice (some ⟨N, 0, none⟩) 1 1) (N + 1) [N, N + 1] R cap (nums aa v n) aa v w hw.tyAt (by rw [nums_len]; exact hw.rows) (by rw [nums_len]; exact hn) (numAt_bad ha) (fits_bad hv) (numAt_good ha hn)
    rw [nums_len] at h1
    exact h1) a b c d e f hg w hX h0) w (fun x hx => by
    have := h.ty.lt
    simp at hx
    omega) h
theorem write_double (rs : Value) (a b c d e f : Int) (hg : told a b c d e f = 0) (w : World) : Calls Tryz.prog 5 #[.agg #[.int .i64 6, .slice none 0 0, .slice none 0 0, .int .i64 0, .int .i64 0, .int .i64 0], rs, .slice none 0 0, .agg #[.int .i64 a, .int .i64 b, .int .i64 c, .int .i64 d, .int .i64 e, .int .i64 f]] w fun e' w' => ∃ F, e' = .returned (.tuple #[.slice none 0 0, .iface 44 (.pointer (some ⟨F, 0, none⟩))]) ∧ Mov [] w w' ∧ w.heap.size ≤ F ∧ FaultAt w' F [116, 121, 112, 101] 0 5 :=
  (write_bad [] (fun _ => True) (fun _ _ _ _ => trivial) 6 _ _ rs _ _ _ a b c d e f (fun w hX h0 => check_type _ _ (fun _ _ _ _ => trivial) 6 _ _ _ 5 (by decide) tcheckD a b c d e f hg w hX h0) w (fun x hx => by simp at hx) trivial).mono fun e w' ⟨F, h1, h2, _, h3, h4⟩ => ⟨F, h1, h2, h3, h4⟩

theorem Box6.lt {w : World} {t g : Nat} {cs : List Value} (h : Box6 w t g cs) : g < w.heap.size := (World.ownsRow.lt h.row g rfl).2
set_option maxHeartbeats 4000000 in
theorem wrong_walk (n aa : Nat) (v a b c d e f : Int) (hn1 : 1 ≤ n) (hn : n ≤ 50) (ha : aa < n) (hv : v < -128 ∨ 127 < v) (w : World) (hL : Laid cfgE w) (h0 : 0 < w.heap.size) :
    Calls Tryz.prog 3 #[.int .i64 n, .int .i64 aa, .int .i64 v, .agg #[.int .i64 a, .int .i64 b, .int .i64 c, .int .i64 d, .int .i64 e, .int .i64 f]] w fun e' w' => e' = .returned (.bool true) ∧ Below w.heap.size w w' := by
  obtain ⟨i32, hi32, hz0, hz1, hz2⟩ := info_parts (P := Tryz.prog) (e := 32) (z := .agg #[.bool false, .int .i64 0, .int .i64 0, .slice none 0 0, .slice none 0 0]) (size := 5) (bytes := 72) (by kernel_rfl)
  have n1 : ((n : Int) < 1) = False := eq_false (by omega)
  have n2 : (50 < (n : Int)) = False := eq_false (by omega)
  have n3 : ((aa : Int) < 0) = False := eq_false (by omega)
  have n4 : ((n : Int) ≤ (aa : Int)) = False := eq_false (by omega)
  have hv' : ((-128 ≤ v) = False) ∨ ((-128 ≤ v) = True ∧ (v ≤ 127) = False) := by
    by_cases h : -128 ≤ v
    · exact .inr ⟨eq_true h, eq_false (by omega)⟩
    · exact .inl (eq_false h)
  have b0 := Box6.new w (t := 23) (.int .i64 a) (.int .i64 b) (.int .i64 c) (.int .i64 d) (.int .i64 e) (.int .i64 f)
  replace b0 : Aside _ := b0
  replace hL : Aside _ := hL
  replace h0 : Aside _ := h0
  replace hn1 : Aside _ := hn1
  replace hn : Aside _ := hn
  replace ha : Aside _ := ha
  replace hv : Aside _ := hv
  go_enter Tryz.func3, Tryz.ntmps3
  rcases hv' with hv1 | ⟨hv1, hv2⟩
  all_goals (
    go_wp2_with (first
      | (go_at_call 4; go_must (
          refine (known_calls _).mono ?_; rintro e' w1 ⟨rfl, hB⟩
          have b1 : Aside (Box6 w1 23 w.heap.size [.int .i64 a, .int .i64 b, .int .i64 c, .int .i64 d, .int .i64 e, .int .i64 f]) := ⟨by
            have := hB.block w.heap.size (by simp)
            obtain ⟨h1, h2⟩ := b0.out.row
            refine ⟨h1, ?_⟩
            rcases h2 with h2 | ⟨g', cap, cur, e, hb, hg, rest⟩
            · exact .inl h2
            · cases e
              exact .inr ⟨w.heap.size, 1, cur, rfl, hb, this.trans hg, rest⟩⟩
          have B1 : Aside (Below w.heap.size w w1) := ((Below.refl _ w).alloc (Nat.le_refl _) _).trans (hB.mono (by simp))
          have hsz1 : w.heap.size + 1 ≤ w1.heap.size := by have := hB.size; simpa using this
          replace hsz1 : Aside _ := hsz1
          clear hB b0))
      | go_in))
  all_goals clear n1 n2 n3 n4
  all_goals (
    obtain ⟨w2, hw2⟩ : ∃ w2, (((w1.alloc (.cells #[.string ⟨[97].toArray⟩] 9)).alloc (.cells #[.int .i64 1, .slice none 0 0, .slice none 0 0, .int .i64 0, .int .i64 0, .int .i64 0] 28)).alloc (.cells #[.int .i64 12, .slice (some ⟨w1.heap.size, 0, none⟩) 1 1, .slice (some ⟨w1.heap.size + 1, 0, none⟩) 1 1, .int .i64 0, .int .i64 0, .int .i64 0] 28)) = w2 := ⟨_, rfl⟩
    rw [hw2]
    have G2 : w1.grownBy w2 none := hw2 ▸ grown_alloc (grown_alloc (World.grownBy_alloc _ _ _) _) _
    have rN : RowAt w2 w1.heap.size nmL1 := (RowAt.of (World.alloc_heap_new w1 (.cells #[.string ⟨[97].toArray⟩] 9))).same (by rw [← hw2]; rw [Below.heap_alloc _ _ _ (by simp; omega), Below.heap_alloc _ _ _ (by simp)])
    have rK : RowAt w2 (w1.heap.size + 1) tyL1 := (RowAt.of (e := 28) (us := tyL1) (w := (w1.alloc (.cells #[.string ⟨[97].toArray⟩] 9)).alloc (.cells #[.int .i64 1, .slice none 0 0, .slice none 0 0, .int .i64 0, .int .i64 0, .int .i64 0] 28)) (by have := World.alloc_heap_new (w1.alloc (.cells #[.string ⟨[97].toArray⟩] 9)) (.cells #[.int .i64 1, .slice none 0 0, .slice none 0 0, .int .i64 0, .int .i64 0, .int .i64 0] 28); simpa using this)).same (by rw [← hw2]; rw [Below.heap_alloc _ _ _ (by simp)])
    have bB : Box6 w2 28 (w1.heap.size + 2) [.int .i64 12, .slice (some ⟨w1.heap.size, 0, none⟩) 1 1, .slice (some ⟨w1.heap.size + 1, 0, none⟩) 1 1, .int .i64 0, .int .i64 0, .int .i64 0] := by
      have := Box6.new ((w1.alloc (.cells #[.string ⟨[97].toArray⟩] 9)).alloc (.cells #[.int .i64 1, .slice none 0 0, .slice none 0 0, .int .i64 0, .int .i64 0, .int .i64 0] 28)) (t := 28) (.int .i64 12) (.slice (some ⟨w1.heap.size, 0, none⟩) 1 1) (.slice (some ⟨w1.heap.size + 1, 0, none⟩) 1 1) (.int .i64 0) (.int .i64 0) (.int .i64 0)
      rw [hw2] at this
      simpa using this
    have z2 : w2.heap.size = w1.heap.size + 3 := by rw [← hw2]; simp
    have b2 := b1.out.kept G2 (by simp)
    have B2 := B1.out.grown G2 B1.out.size (fun k hk => by cases hk)
    have L0 : Aside (Lp w2 w2 (.slice none 0 0) aa v 0) := ⟨⟨[], World.ownsRow_nil _ _ _ _, fun i hi => by omega⟩, grown_refl _ _⟩
    replace rN : Aside _ := rN
    replace rK : Aside _ := rK
    replace bB : Aside _ := bB
    replace z2 : Aside _ := z2
    replace b2 : Aside _ := b2
    replace B2 : Aside _ := B2
    clear G2 hw2 B1 b1
    go_loopw [10, 11, 12] (fun rs i x wl => ∃ k : Nat, k ≤ n ∧ i = .int .i64 k ∧ Aside (Lp w2 wl rs aa v k)) (fun _ i _ _ => n - (intOf i).toNat)
    case atStart => exact ⟨0, Nat.zero_le _, rfl, L0⟩
    case round =>
      obtain ⟨k, hk, rfl, L⟩ := hrel
      have hn' : n ≤ 50 := hn.out
      by_cases hlt : k < n
      · obtain ⟨cs, hrow, hsh⟩ := L.out.row
        obtain ⟨la, lc, hrs⟩ : ∃ la lc, u10 = .slice la k lc := by
          rcases hrow.2 with ⟨e, e0⟩ | ⟨g, cap, cur, e, _⟩
          · exact ⟨none, 0, by rw [e, e0]⟩
          · exact ⟨_, _, e⟩
        subst hrs
        obtain ⟨x, hx⟩ : ∃ x, x = numAt aa v k := ⟨_, rfl⟩
        have hx' : ((aa : Int) ≤ (k : Int) ∧ x = v) ∨ (¬ ((aa : Int) ≤ (k : Int)) ∧ x = (k : Int)) := by
          rw [hx]; unfold numAt
          split
          · exact .inl ⟨by assumption, rfl⟩
          · exact .inr ⟨by assumption, rfl⟩
        replace hrow : Aside _ := hrow
        replace hsh : Aside _ := hsh
        replace hx : Aside _ := hx
        rcases hx' with ⟨hc, hxe⟩ | ⟨hc, hxe⟩
        all_goals (
          go_wp2_with (first
            | (at_builtin; go_must (
               refine wpList_append_own_at _ rfl _ _ 29 rfl w2.heap.size 32 i32 _ 5 72 rfl hi32 hz0 hz1 hz2 rfl (by decide) _ _ _ rfl ((World.ownsRow.alloc hrow.out _).alloc _) ⟨wr.heap.size + 1, 0, none⟩ 1 1 [.bool false, .int .i64 0, .int .i64 0, .slice none 0 0, .slice (some ⟨wr.heap.size, 0, none⟩) 1 1] rfl rfl (cells_new _ _ _ _ (by simp)) (by simp [Value.oneCell']) (by have := hn.out; unfold maxLen; omega) (by have := L.out.gr.size; simp; omega) (by have := L.out.gr.size; simp; omega) ?_
               intro v3 w4 hown4 hgrow4 hnil4 hloc4
               have L2 : Aside (Lp w2 w4 v3 aa v (k + 1)) := Lp.step L.out (hxe ▸ hx.out) hrow.out hsh.out hown4 hgrow4 hloc4
               clear hown4 hgrow4 hnil4 hloc4))
            | go_in)
          first
            | exact ⟨⟨k + 1, by omega, by go_num, L2⟩, by simp [intOf]; omega⟩
            | (go_roundw
               case rel => exact ⟨_, _, _, _, _, _, _, _, _, _, _, _, _, _, _, _, _, _, _, _, ⟨k + 1, by omega, by go_num, L2⟩, rfl⟩
               case measure => simp [intOf]; omega))
      · have hkn : k = n := by omega
        subst hkn
        obtain ⟨R, cap, hrs⟩ : ∃ R cap, u10 = .slice (some ⟨R, 0, none⟩) k cap := by
          obtain ⟨cs, hrow, hsh⟩ := L.out.row
          rcases hrow.2 with ⟨e, e0⟩ | ⟨g, cap, cur, e, _⟩
          · have := hn1.out; omega
          · exact ⟨g, cap, e⟩
        subst hrs
        have gL := L.out.gr
        have sT : StT w1.heap.size (.slice (some ⟨R, 0, none⟩) k cap) (nums aa v k) wr := ⟨RowAt.same rN.out (gL.block _ (RowAt.lt rN.out) (by simp)), RowAt.same rK.out (gL.block _ (RowAt.lt rK.out) (by simp)), L.out.rows (fun x hx => by
          have := z2.out
          simp at hx
          omega)⟩
        obtain ⟨t0, t1, t2, t3, t4, t5⟩ := (bB.out.kept gL (by simp)).all
        have bo := b2.out.kept gL (by simp)
        obtain ⟨o0, o1, o2, o3, o4, o5⟩ := bo.all
        have wl1 : w.heap.size < w1.heap.size := Nat.lt_of_lt_of_le (Nat.lt_succ_self _) hsz1.out
        have Br := B2.out.grown gL B2.out.size (fun k hk => by cases hk)
        replace bo : Aside _ := bo
        replace sT : Aside _ := sT
        replace Br : Aside _ := Br
        replace wl1 : Aside _ := wl1
        clear L bB b2 rN rK gL z2 B2 hi32 hz0 hz1 hz2 L0
        have hgo := told_or a b c d e f
        rcases hgo with hg | hg | hg
        · have ht := tells_rows
          have hi := is_rows
          have hs := as_rows
          have hka : aa < 50 := by have := ha.out; omega
          have tA := ht aa hka
          have iA := hi aa hka
          have sA := hs aa hka
          clear ht hi hs hka
          replace hg : Aside _ := hg
          replace tA : Aside _ := tA
          replace iA : Aside _ := iA
          replace sA : Aside _ := sA
          go_wp2_with (first
            | (go_at_call 5; have key := sT; go_must (
                clear key
                refine Calls.mono (write_row w1.heap.size R cap aa k v ha.out hn.out hv.out a b c d e f hg.out wr sT.out) ?_; rintro e' w5 ⟨F, rfl, m5, s5, hF, hFa⟩
                have bo5 := m5.box6 bo.out (by simp; exact ⟨Nat.ne_of_lt wl1.out, Nat.ne_of_lt (Nat.lt_succ_of_lt wl1.out)⟩)
                have B5 := Br.out.trans (m5.below (B := w.heap.size) Br.out.size (by
                  have h0 := wl1.out
                  intro x hx
                  simp at hx
                  omega))
                have hFw : w.heap.size < F := Nat.lt_of_lt_of_le (Box6.lt bo.out) hF
                have rF : RowAt w5 F (fltL [114, 111, 119] aa 1) := FaultAt.row (i := aa) (g := 1) hFa
                clear t0 t1 t2 t3 t4 t5 o0 o1 o2 o3 o4 o5
                obtain ⟨o0, o1, o2, o3, o4, o5⟩ := bo5.all
                replace bo5 : Aside _ := bo5
                replace B5 : Aside _ := B5
                replace hFw : Aside _ := hFw
                replace rF : Aside _ := rF
                clear m5 s5 hF hFa sT Br bo))
            | (go_at_call 7; go_must (
                refine (optsOf a b c d e f _).mono ?_; rintro e' w6 ⟨rfl, h6⟩
                have B6 : Aside (Below w.heap.size w w6) := B5.out.grown h6 B5.out.size (fun k hk => by cases hk)
                have rF6 : Aside (RowAt w6 F (fltL [114, 111, 119] aa 1)) := RowAt.same rF.out (h6.block _ (RowAt.lt rF.out) (by simp))
                have bo6 : Aside (Box6 w6 23 w.heap.size [.int .i64 a, .int .i64 b, .int .i64 c, .int .i64 d, .int .i64 e, .int .i64 f]) := bo5.out.kept h6 (by simp)
                clear h6 rF B5 o0 o1 o2 o3 o4 o5 bo5))
            | (go_at_call 6; go_must (
                refine (optsR a b c d e f _).mono ?_; rintro e' w7 ⟨rfl, h7⟩
                rw [hg.out]
                have B7 : Aside (Below w.heap.size w w7) := B6.out.grown h7 B6.out.size (fun k hk => by cases hk)
                have rF7 : Aside (RowAt w7 F (fltL [114, 111, 119] aa 1)) := RowAt.same rF6.out (h7.block _ (RowAt.lt rF6.out) (by simp))
                have bo7 := bo6.out.kept h7 (by simp)
                obtain ⟨o0, o1, o2, o3, o4, o5⟩ := bo7.all
                replace bo7 : Aside _ := bo7
                clear h7 rF6 B6 bo6))
            | (go_at_call 5; have key := bo7; go_must (
                clear key
                refine Calls.mono (write_double _ a b c d e f hg.out w7) ?_; rintro e' w8 ⟨G, rfl, m8, hG, hGa⟩
                have B8 := (B7.out.trans (m8.below (B := w.heap.size) B7.out.size (fun x hx => by simp at hx))).alloc (Nat.le_trans B7.out.size m8.size) (.cells #[.pointer none] 44)
                have zG : w7.heap.size ≤ G := hG
                have lG : G < w8.heap.size := (Array.getElem?_eq_some_iff.1 hGa.at_).1
                have lF : F < w7.heap.size := RowAt.lt rF7.out
                have hF8 : RowAt w8 F (fltL [114, 111, 119] aa 1) := RowAt.same rF7.out (m8.block _ lF (by simp))
                have hG8 : RowAt w8 G (fltL [116, 121, 112, 101] 0 5) := FaultAt.row (i := 0) (g := 5) hGa
                obtain ⟨wv, hwv⟩ : ∃ wv, w8.alloc (.cells #[.pointer none] 44) = wv := ⟨_, rfl⟩
                have rF8 : Aside (RowAt wv F (fltL [114, 111, 119] aa 1)) := RowAt.same hF8 (by rw [← hwv]; exact Below.heap_alloc _ _ _ (RowAt.lt hF8))
                have rG8 : Aside (RowAt wv G (fltL [116, 121, 112, 101] 0 5)) := RowAt.same hG8 (by rw [← hwv]; exact Below.heap_alloc _ _ _ (RowAt.lt hG8))
                have rV8 : Aside (RowAt wv w8.heap.size [.pointer none]) := RowAt.of (e := 44) (by rw [← hwv]; exact World.alloc_heap_new _ _)
                rw [hwv] at B8
                have ord : Aside (w.heap.size < F ∧ F < G ∧ G < w8.heap.size ∧ w8.heap.size < wv.heap.size) := ⟨hFw.out, Nat.lt_of_lt_of_le lF zG, lG, by rw [← hwv]; simp⟩
                replace B8 : Aside _ := B8
                clear m8 hG hGa zG lG lF hF8 hG8 o0 o1 o2 o3 o4 o5 bo7 rF7 hFw))
            | (go_at_call 8; have key := rV8; go_must (
                clear key
                obtain ⟨q1, q2, q3, q4⟩ := ord.out
                have B9 := B8.out.alloc B8.out.size (.cells (prtL [114, 111, 119] aa).toArray 42)
                have up : ∀ {c us}, RowAt wv c us → RowAt (wv.alloc (.cells (prtL [114, 111, 119] aa).toArray 42)) c us := fun h => h.same (Below.heap_alloc _ _ _ (RowAt.lt h))
                refine Calls.mono (tells_calls [114, 111, 119] aa 1 tA.out w.heap.size F wv.heap.size _ (laidE hL.out h0.out B9) (gE_lt h0.out) (Nat.le_of_lt q1) B8.out.size (by omega) (up rF8.out) (RowAt.of (World.alloc_heap_new _ _))) ?_
                rintro e' w9 ⟨rfl, m9, rF9⟩
                have C9 : Aside (Below w.heap.size w w9) := B9.trans (m9.below (B := w.heap.size) B9.size (by
                  have h0 := B8.out.size
                  intro x hx
                  simp at hx
                  omega))
                have rG9 : Aside (RowAt w9 G (fltL [116, 121, 112, 101] 0 5)) := (up rG8.out).same (m9.block _ (RowAt.lt (up rG8.out)) (by simp; omega))
                have rV9 : Aside (RowAt w9 w8.heap.size [.pointer none]) := (up rV8.out).same (m9.block _ (RowAt.lt (up rV8.out)) (by simp; omega))
                replace rF9 : Aside _ := rF9
                clear m9 B9 B8 rF8 rG8 rV8 up q1 q2 q3 q4 tA))
            | (go_at_call 9; have key := rV9; go_must (
                clear key
                obtain ⟨q1, q2, q3, q4⟩ := ord.out
                refine Calls.mono (is_calls [114, 111, 119] aa 1 iA.out w.heap.size F _ (laidE hL.out h0.out C9.out) (gE_lt h0.out) (Nat.le_of_lt q1) rF9.out) ?_
                rintro e' w10 ⟨rfl, m10, rF10⟩
                have C10 : Aside (Below w.heap.size w w10) := C9.out.trans (m10.below (B := w.heap.size) C9.out.size (by
                  have h0 := C9.out.size
                  intro x hx
                  simp at hx
                  omega))
                have rG10 : Aside (RowAt w10 G (fltL [116, 121, 112, 101] 0 5)) := RowAt.same rG9.out (m10.block _ (RowAt.lt rG9.out) (by simp; omega))
                have rV10 : Aside (RowAt w10 w8.heap.size [.pointer none]) := RowAt.same rV9.out (m10.block _ (RowAt.lt rV9.out) (by simp; omega))
                replace rF10 : Aside _ := rF10
                clear m10 C9 rF9 rG9 rV9 q1 q2 q3 q4 iA))
            | (go_at_call 10; go_must (
                obtain ⟨q1, q2, q3, q4⟩ := ord.out
                refine Calls.mono (as_calls [114, 111, 119] aa 1 sA.out w.heap.size F w8.heap.size _ (laidE hL.out h0.out C10.out) (gE_lt h0.out) (Nat.le_of_lt q1) (by omega) (by omega) rF10.out rV10.out) ?_
                rintro e' w11 ⟨rfl, m11, rF11, rV11⟩
                have C11 : Aside (Below w.heap.size w w11) := C10.out.trans (m11.below (B := w.heap.size) C10.out.size (by
                  have h0 := C10.out.size
                  intro x hx
                  simp at hx
                  omega))
                have rG11 : Aside (RowAt w11 G (fltL [116, 121, 112, 101] 0 5)) := RowAt.same rG10.out (m11.block _ (RowAt.lt rG10.out) (by simp; omega))
                have v0 : w11.cell? ⟨w8.heap.size, 0, none⟩ = some (.pointer (some ⟨F, 0, none⟩)) := rV11.cell 0
                have f1 : w11.cell? ⟨F, 1, none⟩ = some (.int .i64 aa) := rF11.cell 1
                clear m11 C10 rF10 rG10 rV10 q1 q2 q3 q4 sA rF11 rV11))
            | (go_at_call 8; have key := rG11; go_must (
                clear key v0 f1
                obtain ⟨q1, q2, q3, q4⟩ := ord.out
                have B12 := C11.out.alloc C11.out.size (.cells (prtL [116, 121, 112, 101] 0).toArray 42)
                have up : ∀ {c us}, RowAt w11 c us → RowAt (w11.alloc (.cells (prtL [116, 121, 112, 101] 0).toArray 42)) c us := fun h => h.same (Below.heap_alloc _ _ _ (RowAt.lt h))
                refine Calls.mono (tells_calls [116, 121, 112, 101] 0 5 tells_type w.heap.size G w11.heap.size _ (laidE hL.out h0.out B12) (gE_lt h0.out) (by omega) C11.out.size (Nat.ne_of_lt (RowAt.lt rG11.out)) (up rG11.out) (RowAt.of (World.alloc_heap_new _ _))) ?_
                rintro e' w12 ⟨rfl, m12, rG12⟩
                have C12 : Aside (Below w.heap.size w w12) := B12.trans (m12.below (B := w.heap.size) B12.size (by
                  have h0 := C11.out.size
                  intro x hx
                  simp at hx
                  omega))
                replace rG12 : Aside _ := rG12
                clear m12 B12 C11 rG11 up q1 q2 q3 q4))
            | (go_at_call 9; have key := rG12; go_must (
                clear key
                obtain ⟨q1, q2, q3, q4⟩ := ord.out
                refine Calls.mono (is_calls [116, 121, 112, 101] 0 5 is_type w.heap.size G _ (laidE hL.out h0.out C12.out) (gE_lt h0.out) (by omega) rG12.out) ?_
                rintro e' w13 ⟨rfl, m13, rG13⟩
                have C13 : Aside (Below w.heap.size w w13) := C12.out.trans (m13.below (B := w.heap.size) C12.out.size (by
                  have h0 := C12.out.size
                  intro x hx
                  simp at hx
                  omega))
                clear m13 C12 rG12 q1 q2 q3 q4 rG13))
            | go_in)
          go_ret
          exact ⟨rfl, C13.out⟩
        · have hgn : told a b c d e f ≠ 0 := by rw [hg]; decide
          replace hg : Aside _ := hg
          replace hgn : Aside _ := hgn
          go_wp2_with (first
            | (go_at_call 5; go_must (
                refine Calls.mono (write_options w1.heap.size _ _ a b c d e f hgn.out wr sT.out) ?_; rintro e' w5 ⟨F, rfl, m5, s5, hF, hFa⟩
                have bo5 := m5.box6 bo.out (by simp; exact ⟨Nat.ne_of_lt wl1.out, Nat.ne_of_lt (Nat.lt_succ_of_lt wl1.out)⟩)
                have B5 := Br.out.trans (m5.below (B := w.heap.size) Br.out.size (by
                  have := wl1.out
                  intro x hx
                  simp at hx
                  omega))
                have hFw : w.heap.size ≤ F := Nat.le_trans Br.out.size hF
                rw [hg.out] at hFa
                have rF : RowAt w5 F (fltL [111, 112, 116, 105, 111, 110, 115] 0 1) := FaultAt.row (i := 0) (g := 1) hFa
                clear t0 t1 t2 t3 t4 t5 o0 o1 o2 o3 o4 o5
                obtain ⟨o0, o1, o2, o3, o4, o5⟩ := bo5.all
                replace bo5 : Aside _ := bo5
                replace B5 : Aside _ := B5
                replace hFw : Aside _ := hFw
                replace rF : Aside _ := rF
                clear m5 s5 hF hFa sT Br bo))
            | (go_at_call 7; go_must (
                refine (optsOf a b c d e f _).mono ?_; rintro e' w6 ⟨rfl, h6⟩
                have B6 : Aside (Below w.heap.size w w6) := B5.out.grown h6 B5.out.size (fun k hk => by cases hk)
                have rF6 : Aside (RowAt w6 F (fltL [111, 112, 116, 105, 111, 110, 115] 0 1)) := RowAt.same rF.out (h6.block _ (RowAt.lt rF.out) (by simp))
                clear h6 rF B5 o0 o1 o2 o3 o4 o5 bo5))
            | (go_at_call 6; go_must (
                refine (optsR a b c d e f _).mono ?_; rintro e' w7 ⟨rfl, h7⟩
                rw [hg.out]
                have B7 : Aside (Below w.heap.size w w7) := B6.out.grown h7 B6.out.size (fun k hk => by cases hk)
                have rF7 : Aside (RowAt w7 F (fltL [111, 112, 116, 105, 111, 110, 115] 0 1)) := RowAt.same rF6.out (h7.block _ (RowAt.lt rF6.out) (by simp))
                clear h7 rF6 B6))
            | (go_at_call 8; go_must (
                have B8 := B7.out.alloc B7.out.size (.cells (prtL [111, 112, 116, 105, 111, 110, 115] 0).toArray 42)
                refine Calls.mono (tells_calls [111, 112, 116, 105, 111, 110, 115] 0 1 tells_opt1 w.heap.size F w7.heap.size _ (laidE hL.out h0.out B8) (gE_lt h0.out) hFw.out B7.out.size (Nat.ne_of_lt (RowAt.lt rF7.out)) (RowAt.same rF7.out (Below.heap_alloc _ _ _ (RowAt.lt rF7.out))) (RowAt.of (World.alloc_heap_new _ _))) ?_
                rintro e' w9 ⟨rfl, m9, -⟩
                have B9 : Aside (Below w.heap.size w w9) := B8.trans (m9.below (B := w.heap.size) B8.size (by
                  have h1 := hFw.out
                  have h2 := B7.out.size
                  intro x hx
                  simp at hx
                  omega))
                clear m9 B8))
            | go_in)
          go_ret
          exact ⟨rfl, B9.out⟩
        · have hgn : told a b c d e f ≠ 0 := by rw [hg]; decide
          replace hg : Aside _ := hg
          replace hgn : Aside _ := hgn
          go_wp2_with (first
            | (go_at_call 5; go_must (
                refine Calls.mono (write_options w1.heap.size _ _ a b c d e f hgn.out wr sT.out) ?_; rintro e' w5 ⟨F, rfl, m5, s5, hF, hFa⟩
                have bo5 := m5.box6 bo.out (by simp; exact ⟨Nat.ne_of_lt wl1.out, Nat.ne_of_lt (Nat.lt_succ_of_lt wl1.out)⟩)
                have B5 := Br.out.trans (m5.below (B := w.heap.size) Br.out.size (by
                  have := wl1.out
                  intro x hx
                  simp at hx
                  omega))
                have hFw : w.heap.size ≤ F := Nat.le_trans Br.out.size hF
                rw [hg.out] at hFa
                have rF : RowAt w5 F (fltL [111, 112, 116, 105, 111, 110, 115] 0 7) := FaultAt.row (i := 0) (g := 7) hFa
                clear t0 t1 t2 t3 t4 t5 o0 o1 o2 o3 o4 o5
                obtain ⟨o0, o1, o2, o3, o4, o5⟩ := bo5.all
                replace bo5 : Aside _ := bo5
                replace B5 : Aside _ := B5
                replace hFw : Aside _ := hFw
                replace rF : Aside _ := rF
                clear m5 s5 hF hFa sT Br bo))
            | (go_at_call 7; go_must (
                refine (optsOf a b c d e f _).mono ?_; rintro e' w6 ⟨rfl, h6⟩
                have B6 : Aside (Below w.heap.size w w6) := B5.out.grown h6 B5.out.size (fun k hk => by cases hk)
                have rF6 : Aside (RowAt w6 F (fltL [111, 112, 116, 105, 111, 110, 115] 0 7)) := RowAt.same rF.out (h6.block _ (RowAt.lt rF.out) (by simp))
                clear h6 rF B5 o0 o1 o2 o3 o4 o5 bo5))
            | (go_at_call 6; go_must (
                refine (optsR a b c d e f _).mono ?_; rintro e' w7 ⟨rfl, h7⟩
                rw [hg.out]
                have B7 : Aside (Below w.heap.size w w7) := B6.out.grown h7 B6.out.size (fun k hk => by cases hk)
                have rF7 : Aside (RowAt w7 F (fltL [111, 112, 116, 105, 111, 110, 115] 0 7)) := RowAt.same rF6.out (h7.block _ (RowAt.lt rF6.out) (by simp))
                clear h7 rF6 B6))
            | (go_at_call 8; go_must (
                have B8 := B7.out.alloc B7.out.size (.cells (prtL [111, 112, 116, 105, 111, 110, 115] 0).toArray 42)
                refine Calls.mono (tells_calls [111, 112, 116, 105, 111, 110, 115] 0 7 tells_opt7 w.heap.size F w7.heap.size _ (laidE hL.out h0.out B8) (gE_lt h0.out) hFw.out B7.out.size (Nat.ne_of_lt (RowAt.lt rF7.out)) (RowAt.same rF7.out (Below.heap_alloc _ _ _ (RowAt.lt rF7.out))) (RowAt.of (World.alloc_heap_new _ _))) ?_
                rintro e' w9 ⟨rfl, m9, -⟩
                have B9 : Aside (Below w.heap.size w w9) := B8.trans (m9.below (B := w.heap.size) B8.size (by
                  have h1 := hFw.out
                  have h2 := B7.out.size
                  intro x hx
                  simp at hx
                  omega))
                clear m9 B8))
            | go_in)
          go_ret
          exact ⟨rfl, B9.out⟩)
end Go.Proofs.YtinnmaeeeohkeaaGreatDoor
