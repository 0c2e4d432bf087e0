/- The evaluator of Go code and its proofs, part 11. Own work. -/
import Derived.Test.YtnabebdceaoiiaaGreatDoorL10
set_option linter.unusedVariables false
set_option linter.unusedSimpArgs false
set_option linter.unusedSectionVars false
/-! PlDeci -/
/- Decimals, in plain words. Own work. -/
namespace Go.Ev
open Go

/-! streams -/
def encM (l : List Int) : List UInt8 := l.flatMap fun v => varB 10 (zigN v)
theorem encM_len (l : List Int) : (encM l).length ≤ 10 * l.length := by
  induction l with
  | nil => simp [encM]
  | cons v l ih =>
    have := varB_len 10 (zigN v)
    simp only [encM, List.flatMap_cons, List.length_append, List.length_cons] at *
    omega
def decR : Nat → List UInt8 → List Int → List Int × Nat
  | 0, rest, acc => if rest.isEmpty then (acc, 0) else ([], 2)
  | k + 1, rest, acc => if (varM 0 0 rest).2.2 = 0 then decR k (rest.drop (varM 0 0 rest).2.1) (acc ++ [zagI (varM 0 0 rest).1]) else ([], (varM 0 0 rest).2.2)
def decM (b : List UInt8) (count : Int) : List Int × Nat := if count < 0 ∨ 16384 < count then ([], 1) else decR count.toNat b []
theorem decR_back : ∀ (l : List Int) (acc : List Int), (∀ v ∈ l, inI v) → decR l.length (encM l) acc = (acc ++ l, 0)
  | [], acc, _ => by simp [decR, encM]
  | v :: l, acc, h => by
    have e : encM (v :: l) = varB 10 (zigN v) ++ encM l := by simp [encM]
    have hb := varM_back (zig_lt (h v (by simp))) (encM l)
    simp only [List.length_cons, decR, e, hb, if_true]
    rw [List.drop_append_of_le_length (Nat.le_refl _), List.drop_length, List.nil_append, zag_zig, decR_back l _ (fun v hv => h v (by simp [hv]))]
    simp
theorem decR_in : ∀ (k : Nat) (r : List UInt8) (acc : List Int), (decR k r acc).1.length ≤ acc.length + k ∧ (decR k r acc).2 ≤ 4
  | 0, r, acc => by unfold decR; split <;> simp
  | k + 1, r, acc => by
    unfold decR
    split
    · have := decR_in k (r.drop (varM 0 0 r).2.1) (acc ++ [zagI (varM 0 0 r).1])
      simp at this ⊢
      omega
    · have := varM_ok r 0 0 (by omega) (by simp)
      simp
      omega
/-- an array that grows: none at first -/
def outV (acc : List D) : V := if acc.isEmpty then .d .nilS else .own false 1 acc
theorem outV_nil : outV [] = .d .nilS := rfl
theorem outV_cons (d : D) (r : List D) : outV (d :: r) = .own false 1 (d :: r) := rfl
theorem outV_snoc (r : List D) (d : D) : outV (r ++ [d]) = .own false 1 (r ++ [d]) := by cases r <;> rfl

/-! powers of ten -/
theorem ten_le {n : Nat} (h : n ≤ 18) : 10 ^ n ≤ 1000000000000000000 := by
  have : 10 ^ n ≤ 10 ^ 18 := Nat.pow_le_pow_right (by decide) h
  omega
theorem ten_pos (n : Nat) : 0 < 10 ^ n := Nat.pow_pos (by decide)
theorem ten_int (n : Nat) : ((10 ^ n : Nat) : Int) = 10 ^ n := by simp

/-! order -/
def cmpZ (x y : Int) : Int := if x < y then -1 else if y < x then 1 else 0
def keyZ (a : Int) (s : Nat) : Int := a * ((10 ^ (18 - s) : Nat) : Int)
def cmpM (a : Int) (as : Nat) (b : Int) (bs : Nat) : Int := cmpZ (keyZ a as) (keyZ b bs)
theorem cmpZ_scale {x y t : Int} (h : 0 < t) : cmpZ (x * t) (y * t) = cmpZ x y := by
  unfold cmpZ
  simp only [Int.mul_lt_mul_right h]
theorem cmpM_eq (a : Int) {as : Nat} (b : Int) {bs : Nat} (ha : as ≤ 18) (hb : bs ≤ 18) : cmpM a as b bs = cmpZ (a * ((10 ^ bs : Nat) : Int)) (b * ((10 ^ as : Nat) : Int)) := by
  have p : ∀ m n : Nat, ((10 ^ m : Nat) : Int) * ((10 ^ n : Nat) : Int) = ((10 ^ (m + n) : Nat) : Int) := fun m n => by rw [← Int.natCast_mul, Nat.pow_add]
  have h1 : keyZ a as * ((10 ^ (as + bs) : Nat) : Int) = (a * ((10 ^ bs : Nat) : Int)) * ((10 ^ 18 : Nat) : Int) := by
    unfold keyZ
    rw [Int.mul_assoc, Int.mul_assoc, p, p, show 18 - as + (as + bs) = bs + 18 by omega]
  have h2 : keyZ b bs * ((10 ^ (as + bs) : Nat) : Int) = (b * ((10 ^ as : Nat) : Int)) * ((10 ^ 18 : Nat) : Int) := by
    unfold keyZ
    rw [Int.mul_assoc, Int.mul_assoc, p, p, show 18 - bs + (as + bs) = as + 18 by omega]
  unfold cmpM
  rw [← cmpZ_scale (x := keyZ a as) (y := keyZ b bs) (t := ((10 ^ (as + bs) : Nat) : Int)) (by have := ten_pos (as + bs); omega), h1, h2, cmpZ_scale (by have := ten_pos 18; omega)]
theorem cmpZ_swap (x y : Int) : cmpZ y x = 0 - cmpZ x y := by
  unfold cmpZ
  split <;> split <;> first | rfl | omega
theorem cmpZ_in (x y : Int) : cmpZ x y = -1 ∧ x < y ∨ cmpZ x y = 0 ∧ x = y ∨ cmpZ x y = 1 ∧ y < x := by
  unfold cmpZ
  split
  · exact .inl ⟨rfl, ‹_›⟩
  · split
    · exact .inr (.inr ⟨rfl, ‹_›⟩)
    · exact .inr (.inl ⟨rfl, by omega⟩)
theorem keyZ_self (a b : Int) (s : Nat) : cmpM a s b s = cmpZ a b := by
  unfold cmpM keyZ
  exact cmpZ_scale (by have := ten_pos (18 - s); omega)

/-! another scale -/
def rescM (v : Int) (f t : Nat) : Int × Bool :=
  if f ≤ t then mulM v ((10 ^ (t - f) : Nat) : Int) else if v % ((10 ^ (f - t) : Nat) : Int) = 0 then (v / ((10 ^ (f - t) : Nat) : Int), true) else (0, false)
theorem inI_mul {v : Int} {k : Nat} (h : inI (v * ((10 ^ (k + 1) : Nat) : Int))) : inI (v * 10) := by
  have e : v * ((10 ^ (k + 1) : Nat) : Int) = (v * 10) * ((10 ^ k : Nat) : Int) := by
    rw [Int.mul_assoc]
    congr 1
    rw [Nat.pow_succ]
    omega
  have hp := ten_pos k
  have h1 : (1 : Int) ≤ ((10 ^ k : Nat) : Int) := by omega
  rw [e] at h
  unfold inI at *
  generalize ((10 ^ k : Nat) : Int) = t at *
  generalize v * 10 = w at *
  by_cases hw : 0 ≤ w
  · have := Int.mul_le_mul_of_nonneg_left h1 hw
    omega
  · have := Int.mul_le_mul_of_nonpos_left (a := w) (by omega) h1
    omega
theorem mul_ten (v : Int) (k : Nat) : v * 10 * ((10 ^ k : Nat) : Int) = v * ((10 ^ (k + 1) : Nat) : Int) := by
  rw [Int.mul_assoc]
  congr 1
  rw [Nat.pow_succ]
  omega
theorem mod_ten (v : Int) (k : Nat) : v % ((10 ^ (k + 1) : Nat) : Int) = 0 ↔ v % 10 = 0 ∧ v / 10 % ((10 ^ k : Nat) : Int) = 0 := by
  have e : ((10 ^ (k + 1) : Nat) : Int) = 10 * ((10 ^ k : Nat) : Int) := by rw [Nat.pow_succ]; omega
  have hp := ten_pos k
  rw [e]
  generalize ht : ((10 ^ k : Nat) : Int) = t
  have h0 : 0 < t := by omega
  constructor
  · intro h
    obtain ⟨q, hq⟩ := Int.dvd_of_emod_eq_zero h
    have e1 : v = 10 * (t * q) := by rw [hq, Int.mul_assoc]
    have e2 : v / 10 = t * q := by rw [e1]; exact Int.mul_ediv_cancel_left _ (by decide)
    refine ⟨by rw [e1]; exact Int.mul_emod_right _ _, by rw [e2]; exact Int.mul_emod_right _ _⟩
  · rintro ⟨h1, h2⟩
    obtain ⟨q, hq⟩ := Int.dvd_of_emod_eq_zero h2
    have e1 : v = 10 * t * q := by rw [Int.mul_assoc, ← hq]; omega
    rw [e1]
    exact Int.mul_emod_right _ _
theorem div_ten (v : Int) (k : Nat) : v / 10 / ((10 ^ k : Nat) : Int) = v / ((10 ^ (k + 1) : Nat) : Int) := by
  rw [Int.ediv_ediv_of_nonneg (by decide)]
  congr 1
  rw [Nat.pow_succ]
  omega
theorem tmod_zero {v p : Int} (hp : p ≠ 0) : v.tmod p = 0 ↔ v % p = 0 := by
  rw [← Int.dvd_iff_tmod_eq_zero, ← Int.dvd_iff_emod_eq_zero]
theorem tdiv_of {v p : Int} (h : v % p = 0) : v.tdiv p = v / p := Int.tdiv_eq_ediv_of_dvd (Int.dvd_of_emod_eq_zero h)
theorem div_in {v p : Int} (hv : inI v) (hp : 0 < p) : inI (v / p) := by
  unfold inI at *
  have h1 : (1 : Int) ≤ p := by omega
  constructor
  · rw [Int.le_ediv_iff_mul_le hp]
    have := Int.mul_le_mul_of_nonpos_left (a := (-9223372036854775808 : Int)) (by decide) h1
    omega
  · by_cases h : 0 ≤ v
    · have := Int.ediv_le_self p h
      omega
    · have := Int.ediv_neg_of_neg_of_pos (a := v) (b := p) (by omega) hp
      omega
/-- there and back -/
theorem rescM_back {v : Int} {f t : Nat} (hv : inI v) (h : (rescM v f t).2 = true) : rescM (rescM v f t).1 t f = (v, true) ∧ keyZ v f = keyZ (rescM v f t).1 t ∨ ¬ (f ≤ 18 ∧ t ≤ 18) := by
  by_cases hs : f ≤ 18 ∧ t ≤ 18
  case neg => exact .inr hs
  refine .inl ?_
  have p : ∀ m n : Nat, ((10 ^ m : Nat) : Int) * ((10 ^ n : Nat) : Int) = ((10 ^ (m + n) : Nat) : Int) := fun m n => by rw [← Int.natCast_mul, Nat.pow_add]
  unfold rescM at h ⊢
  by_cases c : f ≤ t
  · rw [if_pos c] at h ⊢
    unfold mulM at h ⊢
    split at h
    · rename_i hi
      rw [if_pos hi]
      simp only
      have hkey : keyZ v f = keyZ (v * ((10 ^ (t - f) : Nat) : Int)) t := by
        unfold keyZ
        rw [Int.mul_assoc, p, show t - f + (18 - t) = 18 - f by omega]
      refine ⟨?_, hkey⟩
      by_cases d : t ≤ f
      · rw [if_pos d, show t - f = 0 by omega, show f - t = 0 by omega]
        simp [hv]
      · rw [if_neg d]
        have h0 : ((10 ^ (t - f) : Nat) : Int) ≠ 0 := by have := ten_pos (t - f); omega
        rw [Int.mul_emod_left, if_pos rfl, Int.mul_ediv_cancel _ h0]
    · cases h
  · rw [if_neg c] at h ⊢
    split at h
    · rename_i hm
      rw [if_pos hm]
      simp only
      have h0 : ((10 ^ (f - t) : Nat) : Int) ≠ 0 := by have := ten_pos (f - t); omega
      have e : v / ((10 ^ (f - t) : Nat) : Int) * ((10 ^ (f - t) : Nat) : Int) = v := Int.ediv_mul_cancel (Int.dvd_of_emod_eq_zero hm)
      constructor
      · rw [if_pos (by omega)]
        unfold mulM
        rw [e, if_pos hv]
      · unfold keyZ
        conv => lhs; rw [← e]
        rw [Int.mul_assoc, p, show f - t + (18 - f) = 18 - t by omega]
    · cases h
theorem rescM_in {v : Int} {f t : Nat} (hv : inI v) : inI (rescM v f t).1 ∧ ((rescM v f t).2 = false → (rescM v f t).1 = 0) := by
  unfold rescM mulM
  split
  · split
    · rename_i h; exact ⟨h, fun e => by cases e⟩
    · exact ⟨by unfold inI; omega, fun _ => rfl⟩
  · split
    · exact ⟨div_in hv (by have := ten_pos (f - t); omega), fun e => by cases e⟩
    · exact ⟨by unfold inI; omega, fun _ => rfl⟩

/-! digits -/
def digN (n : Nat) : Nat := (decF 20 n).length
theorem decF_succ (k n : Nat) : decF (k + 1) n = if n < 10 then [UInt8.ofNat (48 + n)] else decF k (n / 10) ++ [UInt8.ofNat (48 + n % 10)] := rfl
theorem decF_len_step (k n : Nat) : (decF (k + 1) n).length = if n < 10 then 1 else (decF k (n / 10)).length + 1 := by
  rw [decF_succ]
  split <;> simp
theorem decF_more : ∀ (k n : Nat), n < 10 ^ k → 0 < k → decF (k + 1) n = decF k n
  | 0, n, h, h0 => absurd h0 (by decide)
  | k + 1, n, h, h0 => by
    rw [decF_succ (k + 1) n, decF_succ k n]
    by_cases c : n < 10
    · rw [if_pos c, if_pos c]
    · rw [if_neg c, if_neg c]
      cases k with
      | zero => simp at h; omega
      | succ k => rw [decF_more (k + 1) (n / 10) (by rw [Nat.pow_succ] at h; omega) (by omega)]
theorem digN_small {n : Nat} (h : n < 10) : digN n = 1 := by unfold digN; rw [decF_len_step, if_pos h]
theorem digN_step {n : Nat} (h : ¬ n < 10) (hn : n < 10 ^ 20) : digN n = digN (n / 10) + 1 := by
  unfold digN
  rw [decF_len_step, if_neg h, decF_more 19 (n / 10) (by omega) (by decide)]
theorem digN_eight {n : Nat} (h : 100000000 ≤ n) (hn : n < 10 ^ 20) : digN n = digN (n / 100000000) + 8 := by
  rw [digN_step (by omega) hn, digN_step (n := n / 10) (by omega) (by omega), digN_step (n := n / 10 / 10) (by omega) (by omega), digN_step (n := n / 10 / 10 / 10) (by omega) (by omega), digN_step (n := n / 10 / 10 / 10 / 10) (by omega) (by omega),
    digN_step (n := n / 10 / 10 / 10 / 10 / 10) (by omega) (by omega), digN_step (n := n / 10 / 10 / 10 / 10 / 10 / 10) (by omega) (by omega), digN_step (n := n / 10 / 10 / 10 / 10 / 10 / 10 / 10) (by omega) (by omega)]
  have : n / 10 / 10 / 10 / 10 / 10 / 10 / 10 / 10 = n / 100000000 := by omega
  rw [this]
theorem digN_le (n : Nat) : 1 ≤ digN n ∧ digN n ≤ 20 := by
  unfold digN
  have h : ∀ k n, (decF k n).length ≤ k := by
    intro k
    induction k with
    | zero => intro n; simp [decF]
    | succ k ih => intro n; rw [decF_len_step]; have := ih (n / 10); split <;> omega
  refine ⟨?_, h 20 n⟩
  rw [decF_len_step]
  split <;> omega

/-! words -/
def zer (k : Nat) : List UInt8 := List.replicate k 48
theorem repeat_zer : ∀ k, Lib.repeatL [48] k = zer k
  | 0 => rfl
  | k + 1 => by
    have h := repeat_zer k
    show [48] ++ Lib.repeatL [48] k = zer (k + 1)
    rw [h]
    rfl
/-- digits, at least one ahead of the point -/
def padS (d : List UInt8) (s : Nat) : List UInt8 := zer (s + 1 - d.length) ++ d
def pointS (d : List UInt8) (s : Nat) : List UInt8 := d.take (d.length - s) ++ (if s = 0 then [] else 46 :: d.drop (d.length - s))
def bodyS (n s : Nat) : List UInt8 := pointS (padS (decF 20 n) s) s
def textS (v : Int) (s : Nat) : List UInt8 := if v < 0 then 45 :: bodyS v.natAbs s else bodyS v.natAbs s
theorem padS_len (d : List UInt8) (s : Nat) : (padS d s).length = max (s + 1) d.length := by
  unfold padS zer
  simp
  omega
theorem padS_step (d : List UInt8) (s : Nat) (h : d.length ≤ s) : padS (48 :: d) s = padS d s := by
  unfold padS zer
  have e : s + 1 - d.length = (s + 1 - (48 :: d : List UInt8).length) + 1 := by simp; omega
  rw [e, List.replicate_succ']
  simp
theorem padS_done (d : List UInt8) (s : Nat) (h : ¬ d.length ≤ s) : padS d s = d := by
  unfold padS zer
  rw [show s + 1 - d.length = 0 by omega]
  rfl
end Go.Ev
