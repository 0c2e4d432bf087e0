/- TailBegins: what Close wrote is what Open reads. Own work. -/
import Derived.Test.YtplmdlobbfcknaaGreatDoorTbH
namespace Go.Proofs.YtplmdlobbfcknaaGreatDoor
open Go Go.RowKit Go.Me
set_option linter.unusedVariables false
set_option linter.unusedSimpArgs false
set_option maxRecDepth 100000

theorem winV_toVs : Me.toVs (bytesM [8, 3, 16, 0, 34, 2, 8, 12, 48, 0, 58, 4, 8, 0, 80, 0, 64, 0, 8, 18, 16, 0, 24, 0, 34, 2, 0, 12, 40, 0, 48, 1, 130, 244, 3, 3, 79, 82, 67, 21]) = some winV := rfl
theorem FileAt.ofRow {w : World} {base m : Nat} {v : Value} {x0 x1 x2 : UInt8} {r : List Value} (h : w.ownsRow base 5 1 v (m + 40) ([.int .u8 x0.toNat, .int .u8 x1.toNat, .int .u8 x2.toNat] ++ r ++ winV)) (few : m ≤ 303) :
    ∃ G cap, v = .slice (some ⟨G, 0, none⟩) (m + 40) cap ∧ base ≤ G ∧ FileAt w G cap m x0 x1 x2 := by
  obtain ⟨hl, ⟨_, h0⟩ | ⟨G, cap, cur, rfl, hG, hc, hn, hcap, hsz, htk⟩⟩ := h
  · omega
  have hw : winV.length = 40 := rfl
  simp only [List.length_append, List.length_cons, List.length_nil, hw] at hl
  have hr : r.length + 3 = m := by omega
  have get : ∀ j, j < m + 40 → cur[j]? = ([.int .u8 x0.toNat, .int .u8 x1.toNat, .int .u8 x2.toNat] ++ r ++ winV)[j]? := fun j hj => by
    rw [← htk, List.getElem?_take, if_pos (by omega)]
    simp
  have cell : ∀ j, w.cell? ⟨G, j, none⟩ = cur[j]? := fun j => by simp [World.cell?, hc]
  refine ⟨G, cap, rfl, hG, ⟨?_, ?_, ?_, ⟨_, hc, ?_⟩, hn, hcap, few, by omega⟩⟩
  · rw [cell, get 0 (by omega)]; simp
  · rw [cell, get 1 (by omega)]; simp
  · rw [cell, get 2 (by omega)]; simp
  · rw [win_eq]
    refine .cells _ _ _ _ _ _ _ ?_ ⟨fun e => absurd e (by decide), ?_⟩ (.inl rfl) fun i x hi => ?_
    · show 40 + m ≤ cur.size
      omega
    · show (cap - m) * 1 + m ≤ cur.size
      omega
    · have hx := cellsL_at hi
      have hi40 : i < 40 := (List.getElem?_eq_some_iff.1 hx).1
      obtain ⟨u, h1, h2⟩ := toVs_get winV_toVs i x hx
      refine ⟨u, ?_, vr_toV h2⟩
      show cur[i + m]? = some u
      rw [get (i + m) (by omega), List.getElem?_append_right (by simp; omega), ← h1]
      congr 1
      simp
      omega
end Go.Proofs.YtplmdlobbfcknaaGreatDoor
