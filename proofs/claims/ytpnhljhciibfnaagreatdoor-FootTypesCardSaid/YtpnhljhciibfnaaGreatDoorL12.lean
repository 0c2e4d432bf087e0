/- The evaluator of Go code and its proofs, part 12. Own work. -/
import Derived.Test.YtpnhljhciibfnaaGreatDoorL11
import Derived.OpenShut
set_option linter.unusedVariables false
set_option linter.unusedSimpArgs false
set_option linter.unusedSectionVars false
/-! PlNums -/
/- Numbers as bytes, in plain words. Own work. -/
namespace Go.Ev
open Go

def inI (n : Int) : Prop := -9223372036854775808 ≤ n ∧ n < 9223372036854775808
instance (n : Int) : Decidable (inI n) := by unfold inI; infer_instance
theorem tmp {a k : Int} (h : 0 ≤ a) : a.tmod k = a % k := Int.tmod_eq_emod_of_nonneg h

/-- seven bits a byte -/
def varB : Nat → Nat → List UInt8
  | 0, _ => []
  | k + 1, u => if u < 128 then [UInt8.ofNat u] else UInt8.ofNat (u % 128 + 128) :: varB k (u / 128)
theorem varB_len : ∀ (k u : Nat), (varB k u).length ≤ k
  | 0, _ => Nat.le_refl _
  | k + 1, u => by
    unfold varB
    split
    · simp
    · have := varB_len k (u / 128)
      simp; omega

/-- a number read: its value, its bytes, what is wrong -/
def varM : Nat → Nat → List UInt8 → Nat × Nat × Nat
  | _, _, [] => (0, 0, 3)
  | i, v, c :: r => if i = 9 ∧ 1 < c.toNat then (0, 0, 4) else
    if c.toNat < 128 then (v + c.toNat * 128 ^ i, i + 1, 0) else varM (i + 1) (v + (c.toNat - 128) * 128 ^ i) r

theorem u8_of {n : Nat} (h : n < 256) : (UInt8.ofNat n).toNat = n := by
  simp [UInt8.toNat_ofNat']; omega
theorem put_orI (u : Nat) : orI .u8 (((u % 256 : Nat)) : Int) 128 = ((u % 128 + 128 : Nat) : Int) := by
  have : ∀ n : Fin 256, orI .u8 (n.val : Int) 128 = ((n.val % 128 + 128 : Nat) : Int) := by decide +kernel
  have h := this ⟨u % 256, Nat.mod_lt _ (by decide)⟩
  simpa using h
/-- the same, masked first -/
theorem put_orR {u : Nat} (h : u < 18446744073709551616) : IntKind.u8.wrap (orI .u64 (andI .u64 (u : Int) 127) 128) = ((u % 128 + 128 : Nat) : Int) := by
  have h1 := andU (k := .u64) rfl (a := u) (b := 127) h
  rw [show ((127 : Nat) : Int) = 127 from rfl] at h1
  have h2 : u &&& 127 = u % 128 := and_mask u 7
  have h3 := orU (k := .u64) rfl (a := u % 128) (b := 128) (by simp only [IntKind.bits]; omega) (by decide)
  rw [show ((128 : Nat) : Int) = 128 from rfl] at h3
  have h4 : u % 128 ||| 128 = u % 128 + 128 := by
    have := or_add (a := u % 128) (b := 1) (n := 7) (by omega)
    simpa using this
  rw [h1, h2, h3, h4, cv_u8]
  omega

/-! bytes as data -/
theorem byteD_eq (b : UInt8) : byteD b = .int .u8 b.toNat := rfl
theorem plains_bytes (l : List UInt8) : D.plains (l.map byteD) = true := by
  induction l with
  | nil => rfl
  | cons b l ih => simp [D.plains, D.plain, byteD, ih]
attribute [go_sem] plains_bytes
@[go_sem] theorem bytesOf_map (l : List UInt8) : bytesOf? (l.map byteD) = some l := by
  induction l with
  | nil => rfl
  | cons b l ih =>
    simp only [List.map_cons, byteD_eq, bytesOf_cons, ih, Option.map_some]
    congr 2
    simp
theorem byteD_of {n : Nat} (h : n < 256) : byteD (UInt8.ofNat n) = .int .u8 (n : Int) := by rw [byteD_eq, u8_of h]
theorem shr_seven (u : Nat) : shrI .u64 (u : Int) 7 = ((u / 128 : Nat) : Int) := by
  have := shrU .u64 u (n := 7) (by decide)
  rw [show ((7 : Nat) : Int) = 7 from rfl] at this
  rw [this]
end Go.Ev

/-! PlRow -/
/- Arguments of rows as data. Own work. -/
namespace Go.Ev
open Go Go.RowKit

def mkD : List D → D
  | [x] => x
  | xs => .agg xs

variable {P : Program} {W : World} {H : Type} {enc : TypeId × Value → H} {base : Nat} {spare : Nat → Bool} {held : Bool} {t e : TypeId} {v : Value} {x : DataW H × List MemPlace}

theorem read_one {G : List D → Prop} {fuel : Nat} (hI : IsF P W fuel t G) (hf : DataW.trod enc P W base spare held fuel t v.cells.toList = some x) (hv : v.cells.toList = [v]) (hG : ∀ xs, G xs → ∃ d, xs = [d]) : ∃ d, G [d] ∧ Rd anyB W v d := by
  obtain ⟨xs, ⟨q1, q2, q3⟩, hg⟩ := hI H enc base spare held _ _ hf
  obtain ⟨d, rfl⟩ := hG xs hg
  exact ⟨d, hg, q3 0 v d (by rw [hv]; rfl) rfl⟩

theorem read_ints {k : IntKind} (ht : P.underlying t = some (.slice e)) (he : P.underlying e = some (.int k)) (hz : P.cellsOf e = 1) (hv : v.cells.toList = [v]) (h : ∃ fuel, DataW.trod enc P W base spare held fuel t v.cells.toList = some x) :
    ∃ l : List Int, l.length ≤ maxLen ∧ (∀ n ∈ l, (Lit.int k n).wf = true) ∧ Rd anyB W v (.sl (l.map (D.int k))) := by
  obtain ⟨fuel, hf⟩ := h
  obtain ⟨d, ⟨es, hd, hlen, hes⟩, hr⟩ := read_one (IsF.slice ht (by omega) (fun m _ => IsF.int he) mkD (fun xs hx _ => by obtain ⟨m, rfl, _⟩ := hx; rfl)) hf hv (fun xs hx => by obtain ⟨es, rfl, _⟩ := hx; exact ⟨_, rfl⟩)
  cases hd
  have key : ∀ es : List D, (∀ d ∈ es, ∃ ys, (∃ m, ys = [D.int k m] ∧ (Lit.int k m).wf = true) ∧ ys.length = P.cellsOf e ∧ d = mkD ys) → ∃ l : List Int, es = l.map (D.int k) ∧ ∀ n ∈ l, (Lit.int k n).wf = true := by
    intro es
    induction es with
    | nil => exact fun _ => ⟨[], rfl, by simp⟩
    | cons d es ih =>
      intro h
      obtain ⟨ys, ⟨m, rfl, hw⟩, _, rfl⟩ := h d (by simp)
      obtain ⟨l, rfl, hl⟩ := ih (fun d hd => h d (by simp [hd]))
      refine ⟨m :: l, rfl, fun n hn => ?_⟩
      rcases List.mem_cons.1 hn with rfl | hn
      · exact hw
      · exact hl n hn
  obtain ⟨l, rfl, hl⟩ := key es hes
  exact ⟨l, by simpa using hlen, hl, hr⟩

theorem read_bytes (ht : P.underlying t = some (.slice e)) (he : P.underlying e = some (.int .u8)) (hz : P.cellsOf e = 1) (hv : v.cells.toList = [v]) (h : ∃ fuel, DataW.trod enc P W base spare held fuel t v.cells.toList = some x) :
    ∃ l : List UInt8, l.length ≤ maxLen ∧ Rd anyB W v (.sl (l.map byteD)) := by
  obtain ⟨l, h1, h2, h3⟩ := read_ints ht he hz hv h
  refine ⟨l.map fun n => UInt8.ofNat n.toNat, by simpa using h1, ?_⟩
  have : (l.map fun n => UInt8.ofNat n.toNat).map byteD = l.map (D.int .u8) := by
    rw [List.map_map]
    refine List.map_congr_left fun n hn => ?_
    have hw := h2 n hn
    simp [Lit.wf, IntKind.min, IntKind.max, IntKind.signed, IntKind.bits] at hw
    show byteD (UInt8.ofNat n.toNat) = _
    rw [byteD_of (by omega)]
    congr 1
    omega
  rw [this]
  exact h3

end Go.Ev
