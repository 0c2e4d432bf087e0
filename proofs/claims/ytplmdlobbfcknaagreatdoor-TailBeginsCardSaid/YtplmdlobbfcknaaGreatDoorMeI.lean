/- Operations that leave the memory as it is: conversions, maps, builtins; all of them. Own work. -/
import Derived.Test.YtplmdlobbfcknaaGreatDoorMeH
import Derived.Laws.BytesString
import Derived.MapKept
namespace Go.Me
open Go
set_option linter.unusedSimpArgs false
set_option linter.unusedVariables false

section
variable {C : Cfg} {base : Nat} {ν : Nm} {g : Gt} {n : Nat} {w : World} {H : Hp} {s : Tr M} {a : Act}

/-! conversions -/
theorem bytesM_get : ∀ {l : List M} {b : List UInt8}, bytesM l = some b → ∃ ns : List Int, l = ns.map (M.int .u8) ∧ b = ns.map fun n => UInt8.ofNat n.toNat
  | [], b, h => by simp only [bytesM, Option.some.injEq] at h; subst h; exact ⟨[], rfl, rfl⟩
  | x :: l, b, h => by
    cases x <;> first | (simp [bytesM] at h; done) | skip
    rename_i k i
    cases k <;> first | (simp [bytesM] at h; done) | skip
    unfold bytesM at h
    split at h
    · rename_i r hr
      cases h
      obtain ⟨ns, rfl, rfl⟩ := bytesM_get hr
      exact ⟨i :: ns, rfl, rfl⟩
    · cases h
theorem ints_vr : ∀ {ns : List Int} {vs : List Value}, VRs ν (ns.map (M.int .u8)) vs → vs = ns.map (Value.int .u8)
  | [], vs, h => h.inv_nil
  | n :: ns, vs, h => by
    obtain ⟨v, r, rfl, h1, h2⟩ := h.inv_cons
    cases h1
    rw [ints_vr h2]; rfl
theorem foldl_push : ∀ (ns : List Int) (r : ByteArray), ns.foldl (fun r n => r.push (UInt8.ofNat n.toNat)) r = ⟨r.data ++ (ns.map fun n => UInt8.ofNat n.toNat).toArray⟩
  | [], r => by simp
  | n :: ns, r => by
    rw [List.foldl_cons, foldl_push ns]
    simp [ByteArray.push]
/-- the mark behind an array turns nothing that is said of blocks -/
theorem freeze_ok (R : WR C base ν g n w) {b c : Nat} {o : Ob} (hb : ν b = some c) (ho : g b = some o) (hl : o.live = true) {cs : Array Value} {e : TypeId} {fr : Nat × Nat} (hc : w.heap[c]? = some (.cells cs e fr)) :
    WR C base ν g n (w.freeze ⟨c, cs.size, none⟩ 1) ∧ St ν g n w ν g n (w.freeze ⟨c, cs.size, none⟩ 1) := by
  have hheap : ∀ c', (w.freeze ⟨c, cs.size, none⟩ 1).heap[c']? = if c = c' then some (.cells cs e (if fr.1 == fr.2 then (cs.size, cs.size + 1) else (min fr.1 cs.size, max fr.2 (cs.size + 1)))) else w.heap[c']? := fun c' => by
    unfold World.freeze
    rw [if_neg (by decide)]
    simp only [Array.getElem?_modify]
    split
    · rename_i h; subst h; rw [hc]; rfl
    · rfl
  have hsize : (w.freeze ⟨c, cs.size, none⟩ 1).heap.size = w.heap.size := by unfold World.freeze; rw [if_neg (by decide)]; simp
  refine ⟨⟨fun b c h => by rw [hsize]; exact R.lt b c h, fun b' o' c' h1 h2 h3 => ?_, R.inj, fun k xs hk => ?_, by rw [hsize]; exact R.big, R.dom⟩,
    ⟨Nat.le_refl _, fun _ _ => ⟨rfl, rfl⟩, fun _ _ h => h, fun _ _ h => h, fun _ _ _ => rfl, fun _ _ h => h, fun b c h1 h2 => absurd (R.lt b c h2).1 (by omega), by rw [hsize]; exact Nat.le_refl _, fun c' _ h => ?_, by unfold World.freeze; rw [if_neg (by decide)]; exact ⟨rfl, rfl, rfl⟩⟩⟩
  · obtain ⟨ob, h4, h5⟩ := R.ob b' o' c' h1 h2 h3
    rw [hheap]
    by_cases e1 : c = c'
    · subst e1
      rw [if_pos rfl]
      rw [hc] at h4
      cases h4
      refine ⟨_, rfl, ?_⟩
      cases h5 with
      | cells n ex d t _ _ _ hn hx hf h =>
        refine .cells n ex d t cs e _ hn hx ?_ h
        by_cases e2 : fr.1 = fr.2
        · rw [if_pos (by simpa using e2)]; exact .inr (Nat.le_refl _)
        · rw [if_neg (by simpa using e2)]
          have := hf.resolve_left e2
          right
          simp only
          omega
    · rw [if_neg e1]; exact ⟨ob, h4, h5⟩
  · obtain ⟨h1, vs, e', fr', h2, h3⟩ := R.gl k xs hk
    refine ⟨h1, vs, e', fr', ?_, h3⟩
    rw [hheap, if_neg]
    · exact h2
    · have := (R.lt b c hb).2.1; omega
  · rw [hheap, if_neg]
    intro e1
    exact h b ⟨o, ho, hl⟩ (by rw [hb, e1])
/-- what a run that leaves the memory as it is comes to -/
def Same (C : Cfg) (base : Nat) (ν : Nm) (g : Gt) (n : Nat) (w : World) (q : World → Value → Prop) (x : M) : Prop :=
  ∃ v w', q w' v ∧ VR ν x v ∧ WR C base ν g n w' ∧ St ν g n w ν g n w'
theorem run_convM (R : WR C base ν g n w) (hs : ∀ b o, H.get b = some o → o.live = true → g b = some o) {src dst : TypeId} {x r : M} {u : Value} (hx : VR ν x u) (h : convM C H src dst x = some r) :
    Same C base ν g n w (fun w' v => (convert src dst u).run C.P w = .ok v w') r := by
  have same : ∀ {v}, (convert src dst u).run C.P w = .ok v w → VR ν r v → Same C base ν g n w (fun w' v => (convert src dst u).run C.P w = .ok v w') r := fun {v} h1 h2 => ⟨v, w, h1, h2, R, R.refl⟩
  unfold convM at h
  split at h
  · rename_i b o m k
    cases hx with | sl _ _ _ _ c cap hb hc hk hr =>
    split at h
    · rename_i e hu1 hu2
      split at h
      · rename_i hu3
        split at h
        · rename_i l hl
          split at h
          · rename_i by' hby
            cases h
            obtain ⟨vs, h1, h2, h3⟩ := R.rds hs hb m o hl
            obtain ⟨ns, rfl, rfl⟩ := bytesM_get hby
            have e1 := ints_vr h2
            subst e1
            have hr := run_rds (P := C.P) h3
            rw [h1] at hr
            have := run_bytesToString w ⟨c, o + (ν.rm b).2, none⟩ m cap ns hr
            rw [foldl_push] at this
            refine same (v := .string ⟨(ns.map fun n => UInt8.ofNat n.toNat).toArray⟩) ?_ (.str _)
            rw [run_convert_bytes_string w src dst e _ _ _ hu1 hu3 hu2, this]
            simp
          · cases h
        · cases h
      · cases h
    · rename_i e0 e hu1 hu2
      obtain ⟨p1, p2, p3⟩ := and2 h
      split at p3
      · rename_i hu3
        cases p3
        split at p2
        · rename_i k' ex d t ho
          obtain ⟨ob, q1, q2⟩ := R.ob b _ c (hs b _ ho rfl) rfl hb
          cases q2 with | cells _ _ _ _ cs et fr hn hxx hf hh =>
          have e1 : src = dst := by simpa using p1
          subst e1
          rw [hu1] at hu2
          cases hu2
          obtain ⟨g1, g2⟩ := freeze_ok R hb (hs b _ ho rfl) rfl q1
          refine ⟨_, _, ?_, .sl b o m k c cap hb hc hk hr, g1, g2⟩
          have hsh : w.shape? c = some (et, cs.size) := by simp [World.shape?, q1]
          simp only [convert, Sem.run_bind, run_und hu1, run_und hu3, Result.andThen_ok, beq_self_eq_true, markStringish]
          simp [hsh]
        · cases p2
      · cases p3
    · cases h
  · cases hx with | slz ad cap =>
    split at h
    · rename_i e hu1 hu2
      split at h
      · rename_i hu3
        cases h
        refine same (v := .string ⟨#[]⟩) ?_ (.str [])
        have := run_bytesToString (P := C.P) w ad 0 cap [] (by simp [loadCells, loadCellsFrom])
        rw [run_convert_bytes_string w src dst e _ _ _ hu1 hu3 hu2, this]
        rfl
      · cases h
    · cases h
  · split at h
    · rename_i v hv
      rw [hx.toV hv]
      split at h
      · rename_i z hz
        have := pureRun_run w hz
        rw [hx.toV hv] at same
        exact same this (vr_ofV0 h)
      · cases h
    · cases h
end
end Go.Me
