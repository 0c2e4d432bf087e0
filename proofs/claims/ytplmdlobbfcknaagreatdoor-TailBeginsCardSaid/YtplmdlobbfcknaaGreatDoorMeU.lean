/- Regions and code: the walk. Own work. -/
import Derived.Test.YtplmdlobbfcknaaGreatDoorMeT
import Derived.OrdersIn
import Derived.RangeFuncLeaves
import Derived.RangeFuncNested
namespace Go.Me
open Go Go.RowKit
set_option linter.unusedSimpArgs false
set_option linter.unusedVariables false

/-- a round of loop r -/
abbrev rnd (r : Nat) : Fence := Fence.wide.inRound r
theorem stepsIn_rnd {P : Program} {r : Nat} {m m' : Machine} : StepsIn (Machine.fenced P (rnd r)) P m m' ↔ Steps P m m' := stepsIn_wide (P := P)

section
variable {P : Program} {ops : Array Oper} {Q : Exit → Act → World → Prop} {r n : Nat}
theorem upon_lift {o : Oper} {a : Act} {next next' : Act → World → Prop} {res : Result Next} (hQ : ¬ LetsOut Q) (hn : ∀ a w, next a w → next' a w) (h : o.upon P a next Q res) : o.uponIn (rnd r) n P a next' Q res := by
  unfold Oper.upon at h
  split at h
  · exact hn _ _ h
  · exact hn _ _ h
  · exact hn _ _ h
  · refine ⟨(fun h => by cases h), CallsIn.mono (F := rnd r) (show CallsIn (rnd r) _ _ _ _ _ _ from callsIn_wide.2 h) fun e w' hr => ?_⟩
    cases e with
    | returned v => exact hn _ _ hr
    | panicked c => exact hr
    | outgrown => exact hr
  · refine ⟨(fun h => by cases h), fun c cs _ => ?_⟩
    obtain ⟨v, w', h1, h2⟩ := h c cs
    exact ⟨v, w', hn _ _ h1, stepsIn_rnd.2 h2⟩
  · exact h
  · exact h.elim
theorem oper_lift {o : Oper} {a : Act} {w : World} {next next' : Act → World → Prop} (hd : ∀ c, o.op ≠ .defer c) (hQ : ¬ LetsOut Q) (hn : ∀ a w, next a w → next' a w) (h : o.wp P a w next Q) : o.wpIn (rnd r) n P a w next' Q := by
  refine ⟨fun _ _ => trivial, ?_⟩
  rw [Oper.semAt_eq _ _ _ hd]
  exact upon_lift hQ hn h
theorem ops_lift (hd : ∀ (j : Nat) o, ops[j]? = some o → ∀ c, o.op ≠ .defer c) (hQ : ¬ LetsOut Q) : ∀ (l : List Nat) (a : Act) (w : World), wpOps P ops Q l a w → wpOpsIn (rnd r) n P ops Q l a w
  | [], _, _, h => h
  | i :: l, a, w, h => by
    unfold wpOps at h
    unfold wpOpsIn
    split at h
    · rename_i e; rw [e]; exact ops_lift hd hQ l a w h
    · rename_i o e
      rw [e]
      simp only
      split at h
      · rename_i hw
        rw [if_pos hw]
        rcases h with h | h
        · exact oper_lift (hd i o e) hQ (fun a w h => ops_lift hd hQ l a w h) h
        · exact absurd h.2 hQ
      · rename_i hw
        rw [if_neg hw]
        exact ⟨fun _ _ => trivial, ops_lift hd hQ l _ w h⟩
theorem any_lift (hd : ∀ (j : Nat) o, ops[j]? = some o → ∀ c, o.op ≠ .defer c) (hQ : ¬ LetsOut Q) (md : Region.Mode) : ∀ (fuel : Nat) (listed : Array Bool) (a : Act) (w : World), wpAny P md ops Q fuel listed a w → wpAnyIn (rnd r) n P md ops Q fuel listed a w
  | 0, _, _, _, h => h
  | fuel + 1, listed, a, w, h => by
    refine ⟨h.1, fun i hi => ?_⟩
    have h2 := h.2 i hi
    unfold wpOp at h2
    unfold wpOpIn
    split at h2
    · rename_i e; rw [e]; exact any_lift hd hQ md fuel _ a w h2
    · rename_i o e
      rw [e]
      simp only
      split at h2
      · rename_i hw
        rw [if_pos hw]
        rcases h2 with h2 | h2
        · exact oper_lift (hd i o e) hQ (fun a w h => any_lift hd hQ md fuel _ a w h) h2
        · exact absurd h2.2 hQ
      · rename_i hw
        rw [if_neg hw]
        exact ⟨fun _ _ => trivial, any_lift hd hQ md fuel _ _ w h2⟩
theorem loop_n {F : Fence} {c : Code} (J : Nat → Act → World → Prop) (hz : ∀ a w, ¬ J 0 a w) (round : ∀ m a w, J (m + 1) a w → c.wpIn F n P (Exit.then (J m) Q) a w) {m : Nat} {a : Act} {w : World} (h : J m a w) : (Code.loop c).wpIn F n P Q a w := by
  intro b k cs hro hb hr
  have key : ∀ m a w, J m a w → ∃ e a' w', Q e a' w' ∧ ArrivesIn (Machine.fenced P F) P (lone (b.atR a (.code c :: .inLoop c :: k)) cs w) b k cs e a' w' := by
    intro m
    induction m with
    | zero => intro a w h; exact absurd h (hz a w)
    | succ m ih =>
      intro a w h
      obtain ⟨e, a₁, w₁, hq, harr⟩ := round m a w h b (.inLoop c :: k) cs hro hb hr
      have out : e ≠ .normal → ∃ e a' w', Q e a' w' ∧ ArrivesIn (Machine.fenced P F) P (lone (b.atR a (.code c :: .inLoop c :: k)) cs w) b k cs e a' w' := fun hne => by
        refine ⟨e, a₁, w₁, ?_, .pass (x := .inLoop c) rfl (fun _ _ => .inl hne) harr⟩
        cases e <;> first | exact absurd rfl hne | exact hq
      cases e with
      | normal =>
        obtain ⟨e₂, a₂, w₂, hq₂, harr₂⟩ := ih a₁ w₁ hq
        exact ⟨e₂, a₂, w₂, hq₂, .of_steps (StepsIn.trans harr (.one (fenced_calm hb hr rfl) stepR_inLoop)) harr₂⟩
      | _ => exact out (by simp)
  obtain ⟨e, a', w', hq, harr⟩ := key m a w h
  exact ⟨e, a', w', hq, .of_steps (.one (fenced_calm hb hr rfl) stepR_loop) harr⟩
end

section
variable {C : Cfg} {base N : Nat} {call : FuncId → List M → Hp → Option (M × Hp)}

theorem evDraw_ok (hM : MethOk C) (hC : CallOk C call) {ops : Array Oper} {t t' : S} {ν : Nm} {a : Act} {w : World} (h : evDraw C call ops N t = some t') (R : WR C base ν t.H.get t.H.n w) (hS : SR ν t.s a) (hN : N ≤ a.tmps.size) {Q : Exit → Act → World → Prop}
    (hQ : ∀ a' w' ν', WR C base ν' t'.H.get t'.H.n w' → SR ν' t'.s a' → N ≤ a'.tmps.size → a'.defers = a.defers → St ν t.H.get t.H.n w ν' t'.H.get t'.H.n w' → Q .normal a' w') :
    wpAny C.P .any ops Q ops.size (Array.replicate ops.size false) a w.drew := by
  unfold evDraw at h
  split at h
  · rename_i l hs e hrun
    simp only at h
    obtain ⟨h1, h2⟩ := and1 h
    cases h2
    simp only [Bool.and_eq_true] at h1
    obtain ⟨⟨hback, hds⟩, hrec⟩ := h1
    obtain ⟨Hs, ss, Rn⟩ := runAll_spec ops.toList 0 0 _ hrun
    have hno : ∀ b, t.H.n ≤ b → t.H.get b = none := fun b hb => by
      cases hg : t.H.get b with
      | none => rfl
      | some o => have := R.dom b o hg; omega
    have hlen : l.length = ops.size := by rw [Rn.len]; simp
    have hg0 : (Hs 0).get = t.H.get := by rw [Rn.h0]; rfl
    have hn0 : (Hs 0).n = t.H.n + ops.size := by rw [Rn.h0]
    have off : ∀ q, ¬ isOn (Array.replicate ops.size false) q := fun q hq => by
      unfold isOn at hq
      rw [Array.getElem?_replicate] at hq
      split at hq <;> simp at hq
    have ovlow : ∀ b, b < t.H.n → ov C l t.H.n (Hs 0) b = t.H.get b := fun b hb => by
      cases hk : (Hs 0).get b with
      | some o => rw [ov_some hk, ← hg0, hk]
      | none => rw [ov_none hk, if_neg (by omega), ← hg0, hk]
    have R1 : WR C base ν (ov C l t.H.n (Hs 0)) (Hs 0).n w := by
      rw [hn0]
      refine ⟨fun b c hb => ⟨by have := (R.lt b c hb).1; omega, (R.lt b c hb).2⟩, fun b o c h1 h2 h3 => R.ob b o c (by rw [← ovlow b (R.lt b c h3).1]; exact h1) h2 h3, fun b b' c ⟨o, h1, h2⟩ ⟨o', h3, h4⟩ h5 h6 => R.inj b b' c ⟨o, by rw [← ovlow b (R.lt b c h5).1]; exact h1, h2⟩ ⟨o', by rw [← ovlow b' (R.lt b' c h6).1]; exact h3, h4⟩ h5 h6, R.gl, R.big, fun b o h => ?_⟩
      cases hk : (Hs 0).get b with
      | some o' =>
        rw [hg0] at hk
        have := R.dom b o' hk
        omega
      | none =>
        rw [ov_none hk] at h
        split at h
        · rename_i hc
          have : b - t.H.n < l.length := by
            unfold mkOf at h
            split at h
            · rename_i q hq; exact (List.getElem?_eq_some_iff.1 hq).1
            · cases h
          omega
        · cases h
    have T1 : St ν t.H.get t.H.n w ν (ov C l t.H.n (Hs 0)) (Hs 0).n w := by
      rw [hn0]
      exact ⟨Nat.le_add_right _ _, fun _ _ => ⟨rfl, rfl⟩, fun b hb ⟨o, h1, h2⟩ => ⟨o, by rw [← ovlow b hb]; exact h1, h2⟩, fun b hb h => by rw [ovlow b hb]; exact h, fun b hb _ => ovlow b hb, fun b hb h => by rw [ovlow b hb]; exact h, fun b c h1 h2 => absurd (R.lt b c h2).1 (by omega), Nat.le_refl _, fun _ _ _ => rfl, rfl, rfl, rfl⟩
    refine draw_steps (a0 := a) (ν0 := ν) (w0 := w) hM hC R Rn hback hds (fun r hr => List.all_eq_true.1 hrec r hr) hQ ops.size _ a w.drew ν 0 ?_ ⟨by simp, Nat.zero_le _, fun q _ hq => by rw [hg0]; exact hno _ (by omega), by rw [hn0, hlen]; exact Nat.le_refl _, R1.drew, T1.drew', fun q r x b hq hd _ => ?_, fun i q hi => absurd hi (off i), fun q r hq he => ?_, fun q r d _ hq => absurd hq (off q), fun k x _ hk => hS k x (by rw [Rn.s0] at hk; exact hk), hN, rfl⟩
    · refine Nat.le_trans List.countP_le_length (by simp)
    · have hlt := (List.getElem?_eq_some_iff.1 hq).1
      refine ⟨?_, ?_⟩
      · cases hν : ν (t.H.n + q) with
        | none => rfl
        | some c => have := (R.lt _ c hν).1; omega
      · rw [ov_none (by rw [hg0]; exact hno _ (by omega)), if_pos (by omega)]
        congr 1
        omega
    · exact ⟨fun h => absurd h (off q), fun h => absurd h (by omega)⟩
  · cases h
end
end Go.Me
