/- TailBegins: a file's end, found by the program. Own work. -/
import Derived.Test.YtplmdlobbfcknaaGreatDoorTbC
import Derived.Laws.BytesString
namespace Go.Proofs.YtplmdlobbfcknaaGreatDoor
open Go Go.RowKit Go.Me
set_option linter.unusedVariables false
set_option linter.unusedSimpArgs false
set_option maxRecDepth 100000

theorem conv3 (a : Addr) (cap : Nat) (x0 x1 x2 : UInt8) (w : World) (a0 : w.cell? a = some (.int .u8 x0.toNat)) (a1 : w.cell? (a.add 1) = some (.int .u8 x1.toNat)) (a2 : w.cell? (a.add 2) = some (.int .u8 x2.toNat)) :
    (convert 22 9 (.slice (some a) 3 cap)).run Tryz.prog w = .ok (.string ⟨#[x0, x1, x2]⟩) w := by
  rw [run_convert_bytes_string w 22 9 5 (some a) 3 cap Tryz.underlying22 Tryz.underlying5 Tryz.underlying9]
  have hl : (loadCells a 3).run Tryz.prog w = .ok ([(x0.toNat : Int), x1.toNat, x2.toNat].map (Value.int .u8)).toArray w := by
    have := run_loadCells (P := Tryz.prog) (w := w) a 3 (fun j => match j with | 0 => .int .u8 x0.toNat | 1 => .int .u8 x1.toNat | _ => .int .u8 x2.toNat) (fun j hj => by
      match j, hj with
      | 0, _ => exact (show w.cell? (a.add 0) = _ by rw [show a.add 0 = a by unfold Addr.add; split <;> simp_all]; exact a0)
      | 1, _ => exact a1
      | 2, _ => exact a2)
    exact this
  rw [run_bytesToString w a 3 cap _ hl]
  simp [ByteArray.push, ByteArray.empty, ByteArray.emptyWithCapacity]
  rfl
theorem equal_calls (a b : Addr) (ca cb : Nat) (x0 x1 x2 y0 y1 y2 : UInt8) (w : World) (a0 : w.cell? a = some (.int .u8 x0.toNat)) (a1 : w.cell? (a.add 1) = some (.int .u8 x1.toNat)) (a2 : w.cell? (a.add 2) = some (.int .u8 x2.toNat))
    (b0 : w.cell? b = some (.int .u8 y0.toNat)) (b1 : w.cell? (b.add 1) = some (.int .u8 y1.toNat)) (b2 : w.cell? (b.add 2) = some (.int .u8 y2.toNat)) :
    Calls Tryz.prog 105 #[.slice (some a) 3 ca, .slice (some b) 3 cb] w fun e w' => e = .returned (.bool (decide (x0 = y0 ∧ x1 = y1 ∧ x2 = y2))) ∧ w' = w := by
  have h1 := conv3 a ca x0 x1 x2 w a0 a1 a2
  have h2 := conv3 b cb y0 y1 y2 w b0 b1 b2
  clear a0 a1 a2 b0 b1 b2
  go_enter Tryz.func105, Tryz.ntmps105
  go_wp2
  go_ret
  refine ⟨?_, rfl⟩
  simp
  rfl
/-- does it begin as a file does? -/
def isFile (x0 x1 x2 : UInt8) : Bool := decide (x0 = 79 ∧ x1 = 82 ∧ x2 = 67)
theorem prefix_calls (G N cap P : Nat) (hN : 3 ≤ N) (hcap : N ≤ cap) (hc47 : cap ≤ maxLen) (x0 x1 x2 : UInt8) (w : World) (a0 : w.cell? ⟨G, 0, none⟩ = some (.int .u8 x0.toNat)) (a1 : w.cell? ⟨G, 1, none⟩ = some (.int .u8 x1.toNat)) (a2 : w.cell? ⟨G, 2, none⟩ = some (.int .u8 x2.toNat))
    (b0 : w.cell? ⟨P, 0, none⟩ = some (.int .u8 79)) (b1 : w.cell? ⟨P, 1, none⟩ = some (.int .u8 82)) (b2 : w.cell? ⟨P, 2, none⟩ = some (.int .u8 67)) :
    Calls Tryz.prog 78 #[.slice (some ⟨G, 0, none⟩) N cap, .slice (some ⟨P, 0, none⟩) 3 3] w fun e w' => e = .returned (.bool (isFile x0 x1 x2)) ∧ w' = w := by
  have eq := equal_calls ⟨G, 0, none⟩ ⟨P, 0, none⟩ cap 3 x0 x1 x2 79 82 67 w a0 (by rw [add_none]; exact a1) (by rw [add_none]; exact a2) b0 (by rw [add_none]; exact b1) (by rw [add_none]; exact b2)
  have h3 : (3 : Int) ≤ (N : Int) := by omega
  have h3c : 3 ≤ cap := by omega
  replace eq : Aside _ := eq
  clear a0 a1 a2 b0 b1 b2
  go_enter Tryz.func78, Tryz.ntmps78
  go_wp2_with (first
    | (go_at_call 105; go_must (
        refine Calls.mono eq.out ?_; rintro e' w1 ⟨rfl, rfl⟩))
    | go_in)
  go_ret
  exact ⟨by simp [isFile], rfl⟩
end Go.Proofs.YtplmdlobbfcknaaGreatDoor
