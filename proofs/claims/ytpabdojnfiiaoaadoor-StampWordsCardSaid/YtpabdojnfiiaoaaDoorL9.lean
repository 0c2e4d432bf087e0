/- The evaluator of Go code and its proofs, part 9. Own work. -/
import Derived.Test.YtpabdojnfiiaoaaDoorL8
set_option linter.unusedVariables false
set_option linter.unusedSimpArgs false
set_option linter.unusedSectionVars false
/-! EvZv -/
/- Rules for literals, bounds, bytes. Own work. -/
namespace Go.Ev
open Go
variable (cfg : Cfg) (s : Get)

@[go_sem] theorem minD_max (k k' : IntKind) (a b : Int) : minD true [.int k a, .int k' b] = some (.int k (max a b)) := by
  show some (D.int k (if b > a then b else a)) = _
  congr 2
  split <;> omega
@[go_sem] theorem minD_min (k k' : IntKind) (a b : Int) : minD false [.int k a, .int k' b] = some (.int k (min a b)) := by
  show some (D.int k (if b < a then b else a)) = _
  congr 2
  split <;> omega
@[go_sem] theorem parts2_nil : parts2 cfg s [] = some [] := rfl
@[go_sem] theorem parts2_cons (i : Nat) (x : IOpd) (r : List (Nat × IOpd)) : parts2 cfg s ((i, x) :: r) = (dat cfg s x).bind fun d => (parts2 cfg s r).map fun ds => (i, d) :: ds := by
  rw [parts2]
  cases dat cfg s x <;> cases parts2 cfg s r <;> rfl
@[go_sem] theorem parts3_nil : parts3 cfg s [] = some [] := rfl
@[go_sem] theorem parts3_cons (o n : Nat) (x : IOpd) (r : List (Nat × Nat × IOpd)) : parts3 cfg s ((o, n, x) :: r) = (dat cfg s x).bind fun d => (parts3 cfg s r).map fun ds => (o, n, d) :: ds := by
  rw [parts3]
  cases dat cfg s x <;> cases parts3 cfg s r <;> rfl
@[go_sem] theorem fillE_nil (z : Nat) (es : List D) : fillE z es [] = some es := rfl
@[go_sem] theorem fillE_cons (z i : Nat) (es : List D) (x : D) (r : List (Nat × D)) : fillE z es ((i, x) :: r) = if x.cells.length = z ∧ i < es.length ∧ x.storable = true then fillE z (es.set i x) r else none := rfl
@[go_sem] theorem fillD_nil (cs : List D) : fillD cs [] = some cs := rfl
@[go_sem] theorem fillD_cons (off size : Nat) (cs : List D) (x : D) (r : List (Nat × Nat × D)) : fillD cs ((off, size, x) :: r) = if x.cells.length = size ∧ off + size ≤ cs.length ∧ x.storable = true then fillD (setCells cs off x.cells) r else none := rfl
@[go_sem] theorem storable_int (k : IntKind) (n : Int) : (D.int k n).storable = true := rfl
@[go_sem] theorem storable_bool (b : Bool) : (D.bool b).storable = true := rfl
@[go_sem] theorem storable_str (b : List UInt8) : (D.str b).storable = true := rfl
attribute [go_sem] List.length_replicate List.replicate_succ List.replicate_zero List.set_cons_zero List.set_cons_succ List.length_nil
@[go_sem] theorem bytesOf_nil : bytesOf? [] = some [] := rfl
@[go_sem] theorem bytesOf_cons (n : Int) (r : List D) : bytesOf? (.int .u8 n :: r) = (bytesOf? r).map fun b => UInt8.ofNat n.toNat :: b := by
  rw [bytesOf?]
  cases bytesOf? r <;> rfl

/-- bounds, asked -/
def sbH (len : Nat) : Option Int → Option (Nat × Nat)
  | some n => if 0 ≤ n ∧ n ≤ len then some (0, n.toNat) else none
  | none => none
def sbL (len : Nat) : Option Int → Option (Nat × Nat)
  | some n => if 0 ≤ n ∧ n ≤ len then some (n.toNat, len) else none
  | none => none
def sbB (len : Nat) : Option Int → Option Int → Option (Nat × Nat)
  | some m, some n => if 0 ≤ n ∧ n ≤ len ∧ 0 ≤ m ∧ m ≤ n then some (m.toNat, n.toNat) else none
  | _, _ => none
@[go_sem] theorem sb_none (len : Nat) : sbounds cfg s len none none = some (0, len) := rfl
@[go_sem] theorem sb_hi (len : Nat) (x : IOpd) : sbounds cfg s len none (some x) = sbH len ((dat cfg s x).bind D.toInt?) := by
  unfold sbounds sbH
  simp only
  cases (dat cfg s x).bind D.toInt? with
  | none => rfl
  | some n => simp only; by_cases h : 0 ≤ n ∧ n ≤ (len : Int) <;> simp [h]
@[go_sem] theorem sb_lo (len : Nat) (x : IOpd) : sbounds cfg s len (some x) none = sbL len ((dat cfg s x).bind D.toInt?) := by
  unfold sbounds sbL
  simp only
  cases (dat cfg s x).bind D.toInt? <;> rfl
@[go_sem] theorem sb_both (len : Nat) (x y : IOpd) : sbounds cfg s len (some x) (some y) = sbB len ((dat cfg s x).bind D.toInt?) ((dat cfg s y).bind D.toInt?) := by
  unfold sbounds sbB
  simp only
  cases (dat cfg s y).bind D.toInt? with
  | none => cases (dat cfg s x).bind D.toInt? <;> rfl
  | some n =>
    simp only
    cases (dat cfg s x).bind D.toInt? with
    | none => by_cases h : 0 ≤ n ∧ n ≤ (len : Int) <;> simp [h]
    | some m =>
      simp only
      by_cases h : 0 ≤ n ∧ n ≤ (len : Int)
      · by_cases k : 0 ≤ m ∧ m ≤ n
        · have e : max n 0 = n := by omega
          simp [h, k, e]
        · have e : max n 0 = n := by omega
          simp [h, e]
      · simp only [if_neg h]
        rw [if_neg (fun c => h ⟨c.1, c.2.1⟩)]
@[go_sem] theorem sbH_ok {len : Nat} {n : Int} (h0 : 0 ≤ n) (h1 : n ≤ len) : sbH len (some n) = some (0, n.toNat) := if_pos ⟨h0, h1⟩
@[go_sem] theorem sbL_ok {len : Nat} {n : Int} (h0 : 0 ≤ n) (h1 : n ≤ len) : sbL len (some n) = some (n.toNat, len) := if_pos ⟨h0, h1⟩
@[go_sem] theorem sbB_ok {len : Nat} {m n : Int} (h0 : 0 ≤ n) (h1 : n ≤ len) (h2 : 0 ≤ m) (h3 : m ≤ n) : sbB len (some m) (some n) = some (m.toNat, n.toNat) := if_pos ⟨h0, h1, h2, h3⟩

@[go_sem] theorem sB_add {a b : List UInt8} (h : a.length + b.length ≤ 1000000) : strBin .add a b = some (.str (a ++ b)) := if_pos (Nat.le_trans h (by decide))
@[go_sem] theorem sB_eql (a b : List UInt8) : strBin .eql a b = some (.bool (a == b)) := rfl
@[go_sem] theorem sB_neq (a b : List UInt8) : strBin .neq a b = some (.bool !(a == b)) := rfl
@[go_sem] theorem sB_lss (a b : List UInt8) : strBin .lss a b = some (.bool (Go.Op.bytesLess a b)) := rfl
@[go_sem] theorem sB_leq (a b : List UInt8) : strBin .leq a b = some (.bool (Go.Op.bytesLess a b || a == b)) := rfl
@[go_sem] theorem sB_gtr (a b : List UInt8) : strBin .gtr a b = some (.bool !(Go.Op.bytesLess a b || a == b)) := rfl
@[go_sem] theorem sB_geq (a b : List UInt8) : strBin .geq a b = some (.bool !(Go.Op.bytesLess a b)) := rfl
theorem wrap_u8 {n : Int} (h1 : 0 ≤ n) (h2 : n < 256) : IntKind.u8.wrap n = n := by
  simp [IntKind.wrap, IntKind.signed, IntKind.bits]
  omega
end Go.Ev
