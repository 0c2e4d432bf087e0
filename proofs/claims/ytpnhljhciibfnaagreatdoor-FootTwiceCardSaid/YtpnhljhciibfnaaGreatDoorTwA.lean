/- Numbers that come again: the fields of such a footer, in plain words. -/
import Derived.Test.YtpnhljhciibfnaaGreatDoorFtE
namespace Go.Proofs.YtpnhljhciibfnaaGreatDoor
open Go Go.Ev
set_option linter.unusedVariables false
set_option linter.unusedSimpArgs false
set_option maxHeartbeats 4000000

def rowU (r : UInt8) : List Put := [.u 5 9, .u 5 r.toNat]
def rowP (r : UInt8) : Put := .b 3 (putB (rowU r))
def typU : List Put := [.u 1 12]
def typP : Put := .b 4 (putB typU)
def twP (a : Nat) (rows : List UInt8) (b : Nat) : List Put := [.u 6 a, .u 8 a] ++ (rows.map rowP ++ [typP, .u 6 b, .u 8 b])
theorem typU_read : parseM (putB typU) = ([⟨1, 0, 12, [], 0⟩], 0) := by kernel_rfl
theorem rowU_len (r : UInt8) : (putB (rowU r)).length ≤ 40 := by
  have := putB_len (rowU r) 20 (fun x hx => by
    simp only [rowU, List.mem_cons, List.not_mem_nil, or_false] at hx
    rcases hx with rfl | rfl <;> exact (uintF_len _ _).2)
  simpa [rowU] using this
theorem row_read (r : UInt8) : ∃ fs, parseM (putB (rowU r)) = (fs, 0) ∧ fs.map Fld.core = (rowU r).map Put.core := by
  have h := u8_lt r
  have hl := rowU_len r
  exact parseM_put (rowU r) (fun x hx => by
    simp only [rowU, List.mem_cons, List.not_mem_nil, or_false] at hx
    rcases hx with rfl | rfl <;> simp only [Put.ok] <;> omega) (by omega) (by simp [rowU])
def rowF (r : UInt8) : List Fld := (parseM (putB (rowU r))).1
theorem rowF_u (r : UInt8) : (∀ k, k ≠ 5 → uM (rowF r) k = 0) ∧ uM (rowF r) 5 = r.toNat ∧ (rowF r).length = 2 := by
  obtain ⟨fs, h1, h2⟩ := row_read r
  unfold rowF
  rw [h1]
  simp only
  refine ⟨fun k hk => ?_, ?_, ?_⟩
  · rw [uM_core, h2, show (rowU r).map Put.core = [] ++ [(5, 0, 9, []), (5, 0, r.toNat, [])] from rfl, uC_append _ _ _ (fun c hc => ?_)]
    · rfl
    · simp only [List.mem_cons, List.not_mem_nil, or_false] at hc
      rcases hc with rfl | rfl <;> simp only <;> omega
  · rw [uM_core, h2]; rfl
  · have := congrArg List.length h2; simpa [rowU] using this
theorem rowF_ok (r : UInt8) : strOk (rowF r) := by
  obtain ⟨h1, h2, h3⟩ := rowF_u r
  have h := u8_lt r
  unfold strOk
  rw [h1 1 (by omega), h1 2 (by omega), h1 3 (by omega), h1 4 (by omega), h2, h3]
  omega
def rowD (r : UInt8) : D := .agg [.int .i64 0, .int .i64 0, .int .i64 0, .int .i64 0, .int .i64 (r.toNat : Int)]
theorem rowF_d (r : UInt8) : strD (rowF r) = rowD r := by
  obtain ⟨h1, h2, h3⟩ := rowF_u r
  unfold strD rowD
  rw [h1 1 (by omega), h1 2 (by omega), h1 3 (by omega), h1 4 (by omega), h2]
  rfl
def twParts (rows : List UInt8) : Parts := ⟨rows.map rowF, [[⟨1, 0, 12, [], 0⟩]], [], [], []⟩
theorem fold_rows : ∀ (rows : List UInt8) (p : Parts), ((rows.map rowP).map Put.core).foldl addC p = { p with a := p.a ++ rows.map rowF }
  | [], p => by simp
  | r :: rs, p => by
    rw [List.map_cons, List.map_cons, List.foldl_cons, fold_rows rs]
    have : addC p (rowP r).core = { p with a := p.a ++ [rowF r] } := rfl
    rw [this]
    simp
theorem twP_core (a : Nat) (rows : List UInt8) (b : Nat) : (twP a rows b).map Put.core = [(6, 0, a, []), (8, 0, a, [])] ++ (((rows.map rowP).map Put.core) ++ [(4, 2, 0, putB typU), (6, 0, b, []), (8, 0, b, [])]) := by
  unfold twP; rw [List.map_append, List.map_append]; rfl
theorem twP_len (a : Nat) (rows : List UInt8) (b : Nat) : (putB (twP a rows b)).length ≤ 100 * (rows.length + 5) := by
  have := putB_len (twP a rows b) 100 (fun x hx => by
    unfold twP at hx
    simp only [List.mem_append, List.mem_cons, List.not_mem_nil, or_false, List.mem_map] at hx
    rcases hx with (rfl | rfl) | (⟨r, _, rfl⟩ | rfl | rfl | rfl)
    · exact Nat.le_trans (uintF_len _ _).2 (by omega)
    · exact Nat.le_trans (uintF_len _ _).2 (by omega)
    · have := rowU_len r
      exact Nat.le_trans (bytesF_len _ _).2 (by omega)
    · decide
    · exact Nat.le_trans (uintF_len _ _).2 (by omega)
    · exact Nat.le_trans (uintF_len _ _).2 (by omega))
  have h : (twP a rows b).length = rows.length + 5 := by simp [twP]
  rw [h] at this; exact this
theorem tw_ok (a : Nat) (rows : List UInt8) (b : Nat) (ha : a ≤ 65535) (hb : b ≤ 65535) (hr : rows.length ≤ 100) : ∃ fs, FootOk (putB (twP a rows b)) fs (twParts rows) ∧ uM fs 2 = 0 ∧ uM fs 6 = b ∧ uM fs 8 = b := by
  have hl := twP_len a rows b
  obtain ⟨fs, h1, h2⟩ := parseM_put (twP a rows b) (fun x hx => by
    unfold twP at hx
    simp only [List.mem_append, List.mem_cons, List.not_mem_nil, or_false, List.mem_map] at hx
    rcases hx with (rfl | rfl) | (⟨r, _, rfl⟩ | rfl | rfl | rfl) <;> simp only [Put.ok, rowP, typP] <;> omega) (by omega) (by simp [twP]; omega)
  rw [twP_core] at h2
  have u2 : uM fs 2 = 0 := by
    rw [uM_core, h2, ← List.nil_append ([(6, 0, a, []), (8, 0, a, [])] ++ _), uC_append _ _ _ (fun c hc => ?_)]
    · rfl
    · simp only [List.mem_append, List.mem_cons, List.not_mem_nil, or_false, List.mem_map] at hc
      rcases hc with (rfl | rfl) | (⟨_, ⟨r, _, rfl⟩, rfl⟩ | rfl | rfl | rfl) <;> simp [rowP, Put.core, Put.fld, Fld.core]
  have e : ∀ X : List Cr, [(6, 0, a, []), (8, 0, a, [])] ++ (X ++ [(4, 2, 0, putB typU), (6, 0, b, []), (8, 0, b, [])]) = (([(6, 0, a, []), (8, 0, a, [])] ++ (X ++ [(4, 2, 0, putB typU)])) ++ [(6, 0, b, [])]) ++ [(8, 0, b, [])] := by intro X; simp
  have u8 : uM fs 8 = b := by rw [uM_core, h2, e, uC_snoc, if_pos ⟨rfl, rfl⟩]
  have u6 : uM fs 6 = b := by rw [uM_core, h2, e, uC_snoc, if_neg (by simp), uC_snoc, if_pos ⟨rfl, rfl⟩]
  refine ⟨fs, ⟨by omega, h1, want_core fun c hc => ?_, ?_, by omega, by omega, by omega, by simp [twParts]; omega, fun l hl => ?_, rfl, by simp [twParts], by simp [twParts]⟩, u2, u6, u8⟩
  · rw [h2] at hc
    simp only [List.mem_append, List.mem_cons, List.not_mem_nil, or_false, List.mem_map] at hc
    rcases hc with (rfl | rfl) | (⟨_, ⟨r, _, rfl⟩, rfl⟩ | rfl | rfl | rfl)
    · intro h; simp at h
    · intro h; simp at h
    · intro _ _
      obtain ⟨gs, g1, g2⟩ := row_read r
      show (parseM (putB (rowU r))).2 = 0
      rw [g1]
    · intro _ _; rw [typU_read]
    · intro h; simp at h
    · intro h; simp at h
  · rw [splM_core, h2, List.foldl_append, List.foldl_append, fold_rows]
    unfold twParts
    simp [addC, typU_read, noParts]
  · unfold twParts at hl
    obtain ⟨r, _, rfl⟩ := List.mem_map.1 hl
    exact rowF_ok r
end Go.Proofs.YtpnhljhciibfnaaGreatDoor
