/- TailBegins: the postscript, found. Own work. -/
import Derived.Test.YtplmdlobbfcknaaGreatDoorTbD
namespace Go.Proofs.YtplmdlobbfcknaaGreatDoor
open Go Go.RowKit Go.Me
set_option linter.unusedVariables false
set_option linter.unusedSimpArgs false
set_option maxRecDepth 100000

theorem conv_same (P : Nat) (w : World) {cs : Array Value} {e : TypeId} {fr : Nat × Nat} (h : w.heap[P]? = some (.cells cs e fr)) {n cap : Nat} : (convert 22 22 (.slice (some ⟨P, 0, none⟩) n cap)).run Tryz.prog w = .ok (.slice (some ⟨P, 0, none⟩) n cap) (w.freeze ⟨P, cs.size, none⟩ 1) := by
  have hsh : w.shape? P = some (e, cs.size) := by simp [World.shape?, h]
  simp only [convert, Sem.run_bind, run_underlying Tryz.underlying22, run_underlying Tryz.underlying5, Result.andThen_ok, beq_self_eq_true, markStringish]
  simp [hsh]
theorem freeze_says {w : World} {c : Nat} {cs : Array Value} {e : TypeId} {fr : Nat × Nat} (hc : w.heap[c]? = some (.cells cs e fr)) : (∀ j, (w.freeze ⟨c, cs.size, none⟩ 1).cell? ⟨c, j, none⟩ = cs[j]?) ∧ (∀ k, k ≠ c → (w.freeze ⟨c, cs.size, none⟩ 1).heap[k]? = w.heap[k]?) ∧ (w.freeze ⟨c, cs.size, none⟩ 1).heap.size = w.heap.size ∧
    (w.freeze ⟨c, cs.size, none⟩ 1).os = w.os ∧ (w.freeze ⟨c, cs.size, none⟩ 1).tape = w.tape ∧ (w.freeze ⟨c, cs.size, none⟩ 1).output = w.output := by
  have hheap : ∀ c', (w.freeze ⟨c, cs.size, none⟩ 1).heap[c']? = if c = c' then some (.cells cs e (if fr.1 == fr.2 then (cs.size, cs.size + 1) else (min fr.1 cs.size, max fr.2 (cs.size + 1)))) else w.heap[c']? := fun c' => by
    unfold World.freeze
    rw [if_neg (by decide)]
    simp only [Array.getElem?_modify]
    split
    · rename_i h; subst h; rw [hc]; rfl
    · rfl
  refine ⟨fun j => ?_, fun k hk => ?_, ?_, ?_⟩
  · unfold World.cell?
    rw [hheap c, if_pos rfl]
    rfl
  · rw [hheap, if_neg (Ne.symm hk)]
  · unfold World.freeze; rw [if_neg (by decide)]; simp
  · unfold World.freeze; rw [if_neg (by decide)]; exact ⟨rfl, rfl, rfl⟩
structure FileAt (w : World) (G cap m : Nat) (x0 x1 x2 : UInt8) : Prop where
  c0 : w.cell? ⟨G, 0, none⟩ = some (.int .u8 x0.toNat)
  c1 : w.cell? ⟨G, 1, none⟩ = some (.int .u8 x1.toNat)
  c2 : w.cell? ⟨G, 2, none⟩ = some (.int .u8 x2.toNat)
  win : ObAt w G (cap - m, m) winB
  le : m + 40 ≤ cap
  fit : cap ≤ maxLen
  few : m ≤ 303
  more : 3 ≤ m
theorem FileAt.last {w : World} {G cap m : Nat} {x0 x1 x2 : UInt8} (h : FileAt w G cap m x0 x1 x2) : w.cell? ⟨G, 39 + m, none⟩ = some (.int .u8 21) := by
  have := h.win
  rw [win_eq] at this
  exact this.cell (x := .int .u8 (Int.ofNat 21)) (cellsL_at' (i := 39) rfl) rfl
set_option maxHeartbeats 2000000 in
theorem find_not (G cap m : Nat) (x0 x1 x2 : UInt8) (w : World) (h : FileAt w G cap m x0 x1 x2) (hx : isFile x0 x1 x2 = false) :
    Calls Tryz.prog 43 #[.slice (some ⟨G, 0, none⟩) (m + 40) cap] w fun e w' => e = .returned (.tuple #[.slice none 0 0, .int .i64 0, .int .i64 2]) ∧ w.grownBy w' none := by
  have hl := h.last
  rw [Nat.add_comm 39 m] at hl
  have hle := h.le
  have hfit := h.fit
  have hfew := h.few
  have hmore := h.more
  have e0 : ((m : Int) + 40 == 0) = false := by simp; omega
  obtain ⟨wq, hwq⟩ : ∃ wq, w.alloc (.cells #[.int .u8 79, .int .u8 82, .int .u8 67] 5) = wq := ⟨_, rfl⟩
  have gq : w.grownBy wq none := hwq ▸ World.grownBy_alloc _ _ _
  have bq : BoxN wq 5 w.heap.size [.int .u8 79, .int .u8 82, .int .u8 67] := ⟨by rw [← hwq]; exact World.alloc_heap_new _ _⟩
  have cv := conv_same w.heap.size wq bq.row (n := 3) (cap := 3)
  rw [show (#[.int .u8 79, .int .u8 82, .int .u8 67] : Array Value).size = 3 from rfl] at cv
  obtain ⟨wz, hwz⟩ : ∃ wz, wq.freeze ⟨w.heap.size, 3, none⟩ 1 = wz := ⟨_, rfl⟩
  rw [hwz] at cv
  obtain ⟨z1, z2, z3, z4⟩ := freeze_says bq.row
  rw [show (#[.int .u8 79, .int .u8 82, .int .u8 67] : Array Value).size = 3 from rfl, hwz] at z1 z2 z3 z4
  have gz : w.grownBy wz none := ⟨z4.1.trans gq.os, z4.2.1.trans gq.tape, z4.2.2.trans gq.output, by rw [z3]; exact gq.size, fun k hk _ => (z2 k (by omega)).trans (gq.block k hk (by simp))⟩
  have pc := prefix_calls G (m + 40) cap w.heap.size (by omega) hle hfit x0 x1 x2 wz (gz.cell h.c0 (by simp)) (gz.cell h.c1 (by simp)) (gz.cell h.c2 (by simp)) (z1 0) (z1 1) (z1 2)
  clear z1 z2 z3 z4 hwz gq
  have gq := gz
  clear gz
  rw [hx] at pc
  unfold maxLen at hfit
  replace pc : Aside _ := pc
  replace gq : Aside _ := gq
  clear h bq
  go_enter Tryz.func43, Tryz.ntmps43
  go_wp2_with (first
    | (go_at_call 78; go_must (
        refine Calls.mono pc.out ?_; rintro e' w1 ⟨rfl, rfl⟩))
    | go_in)
  refine bodyPost_ret (v := .tuple #[.slice none 0 0, .int .i64 0, .int .i64 2]) (by simp [results, Tryz.results43, go_sem]) rfl ⟨rfl, gq.out⟩
set_option maxHeartbeats 2000000 in
theorem find_yes (G cap m base : Nat) (x0 x1 x2 : UInt8) (w : World) (h : FileAt w G cap m x0 x1 x2) (hx : isFile x0 x1 x2 = true) (hL : Laid cfg0 w) (h0 : 0 < base) (hbw : base ≤ w.heap.size) (hG : base ≤ G) :
    Calls Tryz.prog 43 #[.slice (some ⟨G, 0, none⟩) (m + 40) cap] w fun e w' => ∃ c s cap', e = .returned (.tuple #[.slice (some ⟨c, s, none⟩) 21 21, .int .i64 ((m : Int) + 18), .int .i64 0]) ∧ w.heap.size ≤ c ∧ ObAt w' c (cap', s) zB ∧ ObAt w' G (cap - m, m) winB ∧ Mov [G] w w' := by
  have hl := h.last
  rw [Nat.add_comm 39 m] at hl
  have hle := h.le
  have hfit := h.fit
  have hfew := h.few
  have hmore := h.more
  have e0 : ((m : Int) + 40 == 0) = false := by simp; omega
  obtain ⟨wq, hwq⟩ : ∃ wq, w.alloc (.cells #[.int .u8 79, .int .u8 82, .int .u8 67] 5) = wq := ⟨_, rfl⟩
  have gq : w.grownBy wq none := hwq ▸ World.grownBy_alloc _ _ _
  have bq : BoxN wq 5 w.heap.size [.int .u8 79, .int .u8 82, .int .u8 67] := ⟨by rw [← hwq]; exact World.alloc_heap_new _ _⟩
  have cv := conv_same w.heap.size wq bq.row (n := 3) (cap := 3)
  rw [show (#[.int .u8 79, .int .u8 82, .int .u8 67] : Array Value).size = 3 from rfl] at cv
  obtain ⟨wz, hwz⟩ : ∃ wz, wq.freeze ⟨w.heap.size, 3, none⟩ 1 = wz := ⟨_, rfl⟩
  rw [hwz] at cv
  obtain ⟨z1, z2, z3, z4⟩ := freeze_says bq.row
  rw [show (#[.int .u8 79, .int .u8 82, .int .u8 67] : Array Value).size = 3 from rfl, hwz] at z1 z2 z3 z4
  have gz : w.grownBy wz none := ⟨z4.1.trans gq.os, z4.2.1.trans gq.tape, z4.2.2.trans gq.output, by rw [z3]; exact gq.size, fun k hk _ => (z2 k (by omega)).trans (gq.block k hk (by simp))⟩
  have pc := prefix_calls G (m + 40) cap w.heap.size (by omega) hle hfit x0 x1 x2 wz (gz.cell h.c0 (by simp)) (gz.cell h.c1 (by simp)) (gz.cell h.c2 (by simp)) (z1 0) (z1 1) (z1 2)
  clear z1 z2 z3 z4 hwz gq
  have gq := gz
  clear gz
  rw [hx] at pc
  unfold maxLen at hfit
  replace pc : Aside _ := pc
  replace gq : Aside _ := gq
  have hwin := ObAt.same h.win (gq.out.block G h.win.lt (by simp))
  have Lq : Laid cfg0 wz := laid_to hL h0 ((grown_below gq.out).mono hbw)
  have cl := clone_calls (k := cap - (m + 18)) Lq h0 (Nat.le_trans hbw gq.out.size) hG (by omega) hwin
  rw [Nat.add_comm 18 m] at cl
  have hG' : G < w.heap.size := h.win.lt
  have e1 : (m : Int) + 40 - 1 - 21 = (m : Int) + 18 := by omega
  replace cl : Aside _ := cl
  replace Lq : Aside _ := Lq
  replace hG' : Aside _ := hG'
  replace hbw : Aside _ := hbw
  replace h0 : Aside _ := h0
  replace e1 : Aside _ := e1
  clear h bq hwin hL
  go_enter Tryz.func43, Tryz.ntmps43
  go_wp2_with (first
    | (go_at_call 78; go_must (
        refine Calls.mono pc.out ?_; rintro e' w1 ⟨rfl, rfl⟩))
    | (go_at_call 66; go_must (
        refine Calls.mono cl.out ?_; rintro e' w2 ⟨c, s, p, rfl, hp, hz, hcn, hcG, hwn, m2⟩
        have q1 := gq.out.size
        have q2 := hbw.out
        have q3 := h0.out
        have L2 : Laid cfg0 w2 := laid_to Lq.out q3 (m2.below (by omega) (by simp; omega))
        have cp := clip_calls L2 q3 (by have := m2.size; omega) (by omega) hp hz
        have M2 : Aside (Mov [G] w w2) := (Mov.grown gq.out).trans m2
        have k2 : Aside (w.heap.size ≤ c ∧ c ≠ G ∧ c < w2.heap.size) := ⟨by omega, hcG, hz.lt⟩
        replace hwn : Aside _ := hwn
        replace cp : Aside _ := cp
        clear q1 q2 q3 L2 hcn hcG m2 hz cl Lq))
    | (go_at_call 32; go_must (
        refine Calls.mono cp.out ?_; rintro e' w3 ⟨rfl, hz3, m3⟩
        obtain ⟨j1, j2, j3⟩ := k2.out
        have w3n := ObAt.same hwn.out (m3.block G (ObAt.lt hwn.out) (by simp; omega))
        have M3 : Mov [G] w w3 := ⟨m3.os.trans M2.out.os, m3.tape.trans M2.out.tape, m3.output.trans M2.out.output, Nat.le_trans M2.out.size m3.size, fun k hk hX => (m3.block k (Nat.lt_of_lt_of_le hk M2.out.size) (by simp; omega)).trans (M2.out.block k hk hX)⟩
        replace w3n : Aside _ := w3n
        replace M3 : Aside _ := M3
        replace hz3 : Aside _ := hz3
        clear m3 hwn M2 j2 j3 cp))
    | go_in)
  refine bodyPost_ret (v := .tuple #[.slice (some ⟨c, s, none⟩) 21 21, .int .i64 ((m : Int) + 40 - 1 - 21), .int .i64 0]) (by simp [results, Tryz.results43, go_sem]) rfl ⟨c, s, p, by rw [e1.out], j1, hz3.out, w3n.out, M3.out⟩
end Go.Proofs.YtplmdlobbfcknaaGreatDoor
