/- The evaluator of Go code and its proofs, part 10. Own work. -/
import Derived.Test.YteckebocflnkdaaDoorL9
set_option linter.unusedVariables false
set_option linter.unusedSimpArgs false
set_option linter.unusedSectionVars false
/-! PlDeci -/
/- Decimals, in plain words. Own work. -/
namespace Go.Ev
open Go

/-! streams -/
def encM (l : List Int) : List UInt8 := l.flatMap fun v => varB 10 (zigN v)
theorem encM_len (l : List Int) : (encM l).length ≤ 10 * l.length := by
  induction l with
  | nil => simp [encM]
  | cons v l ih =>
    have := varB_len 10 (zigN v)
    simp only [encM, List.flatMap_cons, List.length_append, List.length_cons] at *
    omega
def decR : Nat → List UInt8 → List Int → List Int × Nat
  | 0, rest, acc => if rest.isEmpty then (acc, 0) else ([], 2)
  | k + 1, rest, acc => if (varM 0 0 rest).2.2 = 0 then decR k (rest.drop (varM 0 0 rest).2.1) (acc ++ [zagI (varM 0 0 rest).1]) else ([], (varM 0 0 rest).2.2)
def decM (b : List UInt8) (count : Int) : List Int × Nat := if count < 0 ∨ 16384 < count then ([], 1) else decR count.toNat b []
theorem decR_back : ∀ (l : List Int) (acc : List Int), (∀ v ∈ l, inI v) → decR l.length (encM l) acc = (acc ++ l, 0)
  | [], acc, _ => by simp [decR, encM]
  | v :: l, acc, h => by
    have e : encM (v :: l) = varB 10 (zigN v) ++ encM l := by simp [encM]
    have hb := varM_back (zig_lt (h v (by simp))) (encM l)
    simp only [List.length_cons, decR, e, hb, if_true]
    rw [List.drop_append_of_le_length (Nat.le_refl _), List.drop_length, List.nil_append, zag_zig, decR_back l _ (fun v hv => h v (by simp [hv]))]
    simp
theorem decR_in : ∀ (k : Nat) (r : List UInt8) (acc : List Int), (decR k r acc).1.length ≤ acc.length + k ∧ (decR k r acc).2 ≤ 4
  | 0, r, acc => by unfold decR; split <;> simp
  | k + 1, r, acc => by
    unfold decR
    split
    · have := decR_in k (r.drop (varM 0 0 r).2.1) (acc ++ [zagI (varM 0 0 r).1])
      simp at this ⊢
      omega
    · have := varM_ok r 0 0 (by omega) (by simp)
      simp
      omega
/-- an array that grows: none at first -/
def outV (acc : List D) : V := if acc.isEmpty then .d .nilS else .own false 1 acc
theorem outV_nil : outV [] = .d .nilS := rfl
theorem outV_cons (d : D) (r : List D) : outV (d :: r) = .own false 1 (d :: r) := rfl
theorem outV_snoc (r : List D) (d : D) : outV (r ++ [d]) = .own false 1 (r ++ [d]) := by cases r <;> rfl

/-! powers of ten -/
theorem ten_le {n : Nat} (h : n ≤ 18) : 10 ^ n ≤ 1000000000000000000 := by
  have : 10 ^ n ≤ 10 ^ 18 := Nat.pow_le_pow_right (by decide) h
  omega
theorem ten_pos (n : Nat) : 0 < 10 ^ n := Nat.pow_pos (by decide)
theorem ten_int (n : Nat) : ((10 ^ n : Nat) : Int) = 10 ^ n := by simp

/-! order -/
def cmpZ (x y : Int) : Int := if x < y then -1 else if y < x then 1 else 0
def keyZ (a : Int) (s : Nat) : Int := a * ((10 ^ (18 - s) : Nat) : Int)
def cmpM (a : Int) (as : Nat) (b : Int) (bs : Nat) : Int := cmpZ (keyZ a as) (keyZ b bs)
theorem cmpZ_scale {x y t : Int} (h : 0 < t) : cmpZ (x * t) (y * t) = cmpZ x y := by
  unfold cmpZ
  simp only [Int.mul_lt_mul_right h]
theorem cmpM_eq (a : Int) {as : Nat} (b : Int) {bs : Nat} (ha : as ≤ 18) (hb : bs ≤ 18) : cmpM a as b bs = cmpZ (a * ((10 ^ bs : Nat) : Int)) (b * ((10 ^ as : Nat) : Int)) := by
  have p : ∀ m n : Nat, ((10 ^ m : Nat) : Int) * ((10 ^ n : Nat) : Int) = ((10 ^ (m + n) : Nat) : Int) := fun m n => by rw [← Int.natCast_mul, Nat.pow_add]
  have h1 : keyZ a as * ((10 ^ (as + bs) : Nat) : Int) = (a * ((10 ^ bs : Nat) : Int)) * ((10 ^ 18 : Nat) : Int) := by
    unfold keyZ
    rw [Int.mul_assoc, Int.mul_assoc, p, p, show 18 - as + (as + bs) = bs + 18 by omega]
  have h2 : keyZ b bs * ((10 ^ (as + bs) : Nat) : Int) = (b * ((10 ^ as : Nat) : Int)) * ((10 ^ 18 : Nat) : Int) := by
    unfold keyZ
    rw [Int.mul_assoc, Int.mul_assoc, p, p, show 18 - bs + (as + bs) = as + 18 by omega]
  unfold cmpM
  rw [← cmpZ_scale (x := keyZ a as) (y := keyZ b bs) (t := ((10 ^ (as + bs) : Nat) : Int)) (by have := ten_pos (as + bs); omega), h1, h2, cmpZ_scale (by have := ten_pos 18; omega)]
theorem cmpZ_swap (x y : Int) : cmpZ y x = 0 - cmpZ x y := by
  unfold cmpZ
  split <;> split <;> first | rfl | omega
theorem cmpZ_in (x y : Int) : cmpZ x y = -1 ∧ x < y ∨ cmpZ x y = 0 ∧ x = y ∨ cmpZ x y = 1 ∧ y < x := by
  unfold cmpZ
  split
  · exact .inl ⟨rfl, ‹_›⟩
  · split
    · exact .inr (.inr ⟨rfl, ‹_›⟩)
    · exact .inr (.inl ⟨rfl, by omega⟩)
theorem keyZ_self (a b : Int) (s : Nat) : cmpM a s b s = cmpZ a b := by
  unfold cmpM keyZ
  exact cmpZ_scale (by have := ten_pos (18 - s); omega)

/-! another scale -/
def rescM (v : Int) (f t : Nat) : Int × Bool :=
  if f ≤ t then mulM v ((10 ^ (t - f) : Nat) : Int) else if v % ((10 ^ (f - t) : Nat) : Int) = 0 then (v / ((10 ^ (f - t) : Nat) : Int), true) else (0, false)
theorem inI_mul {v : Int} {k : Nat} (h : inI (v * ((10 ^ (k + 1) : Nat) : Int))) : inI (v * 10) := by
  have e : v * ((10 ^ (k + 1) : Nat) : Int) = (v * 10) * ((10 ^ k : Nat) : Int) := by
    rw [Int.mul_assoc]
    congr 1
    rw [Nat.pow_succ]
    omega
  have hp := ten_pos k
  have h1 : (1 : Int) ≤ ((10 ^ k : Nat) : Int) := by omega
  rw [e] at h
  unfold inI at *
  generalize ((10 ^ k : Nat) : Int) = t at *
  generalize v * 10 = w at *
  by_cases hw : 0 ≤ w
  · have := Int.mul_le_mul_of_nonneg_left h1 hw
    omega
  · have := Int.mul_le_mul_of_nonpos_left (a := w) (by omega) h1
    omega
theorem mul_ten (v : Int) (k : Nat) : v * 10 * ((10 ^ k : Nat) : Int) = v * ((10 ^ (k + 1) : Nat) : Int) := by
  rw [Int.mul_assoc]
  congr 1
  rw [Nat.pow_succ]
  omega
theorem mod_ten (v : Int) (k : Nat) : v % ((10 ^ (k + 1) : Nat) : Int) = 0 ↔ v % 10 = 0 ∧ v / 10 % ((10 ^ k : Nat) : Int) = 0 := by
  have e : ((10 ^ (k + 1) : Nat) : Int) = 10 * ((10 ^ k : Nat) : Int) := by rw [Nat.pow_succ]; omega
  have hp := ten_pos k
  rw [e]
  generalize ht : ((10 ^ k : Nat) : Int) = t
  have h0 : 0 < t := by omega
  constructor
  · intro h
    obtain ⟨q, hq⟩ := Int.dvd_of_emod_eq_zero h
    have e1 : v = 10 * (t * q) := by rw [hq, Int.mul_assoc]
    have e2 : v / 10 = t * q := by rw [e1]; exact Int.mul_ediv_cancel_left _ (by decide)
    refine ⟨by rw [e1]; exact Int.mul_emod_right _ _, by rw [e2]; exact Int.mul_emod_right _ _⟩
  · rintro ⟨h1, h2⟩
    obtain ⟨q, hq⟩ := Int.dvd_of_emod_eq_zero h2
    have e1 : v = 10 * t * q := by rw [Int.mul_assoc, ← hq]; omega
    rw [e1]
    exact Int.mul_emod_right _ _
theorem div_ten (v : Int) (k : Nat) : v / 10 / ((10 ^ k : Nat) : Int) = v / ((10 ^ (k + 1) : Nat) : Int) := by
  rw [Int.ediv_ediv_of_nonneg (by decide)]
  congr 1
  rw [Nat.pow_succ]
  omega
theorem tmod_zero {v p : Int} (hp : p ≠ 0) : v.tmod p = 0 ↔ v % p = 0 := by
  rw [← Int.dvd_iff_tmod_eq_zero, ← Int.dvd_iff_emod_eq_zero]
theorem tdiv_of {v p : Int} (h : v % p = 0) : v.tdiv p = v / p := Int.tdiv_eq_ediv_of_dvd (Int.dvd_of_emod_eq_zero h)
theorem div_in {v p : Int} (hv : inI v) (hp : 0 < p) : inI (v / p) := by
  unfold inI at *
  have h1 : (1 : Int) ≤ p := by omega
  constructor
  · rw [Int.le_ediv_iff_mul_le hp]
    have := Int.mul_le_mul_of_nonpos_left (a := (-9223372036854775808 : Int)) (by decide) h1
    omega
  · by_cases h : 0 ≤ v
    · have := Int.ediv_le_self p h
      omega
    · have := Int.ediv_neg_of_neg_of_pos (a := v) (b := p) (by omega) hp
      omega
/-- there and back -/
theorem rescM_back {v : Int} {f t : Nat} (hv : inI v) (h : (rescM v f t).2 = true) : rescM (rescM v f t).1 t f = (v, true) ∧ keyZ v f = keyZ (rescM v f t).1 t ∨ ¬ (f ≤ 18 ∧ t ≤ 18) := by
  by_cases hs : f ≤ 18 ∧ t ≤ 18
  case neg => exact .inr hs
  refine .inl ?_
  have p : ∀ m n : Nat, ((10 ^ m : Nat) : Int) * ((10 ^ n : Nat) : Int) = ((10 ^ (m + n) : Nat) : Int) := fun m n => by rw [← Int.natCast_mul, Nat.pow_add]
  unfold rescM at h ⊢
  by_cases c : f ≤ t
  · rw [if_pos c] at h ⊢
    unfold mulM at h ⊢
    split at h
    · rename_i hi
      rw [if_pos hi]
      simp only
      have hkey : keyZ v f = keyZ (v * ((10 ^ (t - f) : Nat) : Int)) t := by
        unfold keyZ
        rw [Int.mul_assoc, p, show t - f + (18 - t) = 18 - f by omega]
      refine ⟨?_, hkey⟩
      by_cases d : t ≤ f
      · rw [if_pos d, show t - f = 0 by omega, show f - t = 0 by omega]
        simp [hv]
      · rw [if_neg d]
        have h0 : ((10 ^ (t - f) : Nat) : Int) ≠ 0 := by have := ten_pos (t - f); omega
        rw [Int.mul_emod_left, if_pos rfl, Int.mul_ediv_cancel _ h0]
    · cases h
  · rw [if_neg c] at h ⊢
    split at h
    · rename_i hm
      rw [if_pos hm]
      simp only
      have h0 : ((10 ^ (f - t) : Nat) : Int) ≠ 0 := by have := ten_pos (f - t); omega
      have e : v / ((10 ^ (f - t) : Nat) : Int) * ((10 ^ (f - t) : Nat) : Int) = v := Int.ediv_mul_cancel (Int.dvd_of_emod_eq_zero hm)
      constructor
      · rw [if_pos (by omega)]
        unfold mulM
        rw [e, if_pos hv]
      · unfold keyZ
        conv => lhs; rw [← e]
        rw [Int.mul_assoc, p, show f - t + (18 - f) = 18 - t by omega]
    · cases h
theorem rescM_in {v : Int} {f t : Nat} (hv : inI v) : inI (rescM v f t).1 ∧ ((rescM v f t).2 = false → (rescM v f t).1 = 0) := by
  unfold rescM mulM
  split
  · split
    · rename_i h; exact ⟨h, fun e => by cases e⟩
    · exact ⟨by unfold inI; omega, fun _ => rfl⟩
  · split
    · exact ⟨div_in hv (by have := ten_pos (f - t); omega), fun e => by cases e⟩
    · exact ⟨by unfold inI; omega, fun _ => rfl⟩

/-! digits -/
def digN (n : Nat) : Nat := (decF 20 n).length
theorem decF_succ (k n : Nat) : decF (k + 1) n = if n < 10 then [UInt8.ofNat (48 + n)] else decF k (n / 10) ++ [UInt8.ofNat (48 + n % 10)] := rfl
theorem decF_len_step (k n : Nat) : (decF (k + 1) n).length = if n < 10 then 1 else (decF k (n / 10)).length + 1 := by
  rw [decF_succ]
  split <;> simp
theorem decF_more : ∀ (k n : Nat), n < 10 ^ k → 0 < k → decF (k + 1) n = decF k n
  | 0, n, h, h0 => absurd h0 (by decide)
  | k + 1, n, h, h0 => by
    rw [decF_succ (k + 1) n, decF_succ k n]
    by_cases c : n < 10
    · rw [if_pos c, if_pos c]
    · rw [if_neg c, if_neg c]
      cases k with
      | zero => simp at h; omega
      | succ k => rw [decF_more (k + 1) (n / 10) (by rw [Nat.pow_succ] at h; omega) (by omega)]
theorem digN_small {n : Nat} (h : n < 10) : digN n = 1 := by unfold digN; rw [decF_len_step, if_pos h]
theorem digN_step {n : Nat} (h : ¬ n < 10) (hn : n < 10 ^ 20) : digN n = digN (n / 10) + 1 := by
  unfold digN
  rw [decF_len_step, if_neg h, decF_more 19 (n / 10) (by omega) (by decide)]
theorem digN_eight {n : Nat} (h : 100000000 ≤ n) (hn : n < 10 ^ 20) : digN n = digN (n / 100000000) + 8 := by
  rw [digN_step (by omega) hn, digN_step (n := n / 10) (by omega) (by omega), digN_step (n := n / 10 / 10) (by omega) (by omega), digN_step (n := n / 10 / 10 / 10) (by omega) (by omega), digN_step (n := n / 10 / 10 / 10 / 10) (by omega) (by omega),
    digN_step (n := n / 10 / 10 / 10 / 10 / 10) (by omega) (by omega), digN_step (n := n / 10 / 10 / 10 / 10 / 10 / 10) (by omega) (by omega), digN_step (n := n / 10 / 10 / 10 / 10 / 10 / 10 / 10) (by omega) (by omega)]
  have : n / 10 / 10 / 10 / 10 / 10 / 10 / 10 / 10 = n / 100000000 := by omega
  rw [this]
theorem digN_le (n : Nat) : 1 ≤ digN n ∧ digN n ≤ 20 := by
  unfold digN
  have h : ∀ k n, (decF k n).length ≤ k := by
    intro k
    induction k with
    | zero => intro n; simp [decF]
    | succ k ih => intro n; rw [decF_len_step]; have := ih (n / 10); split <;> omega
  refine ⟨?_, h 20 n⟩
  rw [decF_len_step]
  split <;> omega

/-! words -/
def zer (k : Nat) : List UInt8 := List.replicate k 48
theorem repeat_zer : ∀ k, Lib.repeatL [48] k = zer k
  | 0 => rfl
  | k + 1 => by
    have h := repeat_zer k
    show [48] ++ Lib.repeatL [48] k = zer (k + 1)
    rw [h]
    rfl
/-- digits, at least one ahead of the point -/
def padS (d : List UInt8) (s : Nat) : List UInt8 := zer (s + 1 - d.length) ++ d
def pointS (d : List UInt8) (s : Nat) : List UInt8 := d.take (d.length - s) ++ (if s = 0 then [] else 46 :: d.drop (d.length - s))
def bodyS (n s : Nat) : List UInt8 := pointS (padS (decF 20 n) s) s
def textS (v : Int) (s : Nat) : List UInt8 := if v < 0 then 45 :: bodyS v.natAbs s else bodyS v.natAbs s
theorem padS_len (d : List UInt8) (s : Nat) : (padS d s).length = max (s + 1) d.length := by
  unfold padS zer
  simp
  omega
theorem padS_step (d : List UInt8) (s : Nat) (h : d.length ≤ s) : padS (48 :: d) s = padS d s := by
  unfold padS zer
  have e : s + 1 - d.length = (s + 1 - (48 :: d : List UInt8).length) + 1 := by simp; omega
  rw [e, List.replicate_succ']
  simp
theorem padS_done (d : List UInt8) (s : Nat) (h : ¬ d.length ≤ s) : padS d s = d := by
  unfold padS zer
  rw [show s + 1 - d.length = 0 by omega]
  rfl
end Go.Ev

/-! PlParse -/
/- Words of decimals read, in plain words. Own work. -/
namespace Go.Ev
open Go

def digB (c : UInt8) : Bool := decide (48 ≤ c.toNat) && decide (c.toNat ≤ 57)
def plainB (l : List UInt8) : Bool := !l.isEmpty && l.all digB
def cutM : List UInt8 → List UInt8 × List UInt8 × Bool
  | [] => ([], [], false)
  | c :: r => if c = 46 then ([], r, true) else (c :: (cutM r).1, (cutM r).2.1, (cutM r).2.2)
def sgn (neg : Bool) (d : Int) : Int := if neg then 0 - d else d
def foldV (neg : Bool) : Int → List UInt8 → Int × Nat
  | v, [] => (v, 0)
  | v, c :: r => if (mulM v 10).2 = true ∧ (addM (mulM v 10).1 (sgn neg ((c.toNat : Int) - 48))).2 = true then foldV neg (addM (mulM v 10).1 (sgn neg ((c.toNat : Int) - 48))).1 r else (0, 4)
def restS (t : List UInt8) : List UInt8 := if t.head? = some 45 then t.tail else t
def parseM (t : List UInt8) (s : Nat) : Int × Nat :=
  if plainB (cutM (restS t)).1 = false ∨ (cutM (restS t)).2.2 = true ∧ plainB (cutM (restS t)).2.1 = false then (0, 2) else
  if s < (cutM (restS t)).2.1.length then (0, 4) else
  foldV (decide (t.head? = some 45)) 0 ((cutM (restS t)).1 ++ (cutM (restS t)).2.1 ++ zer (s - (cutM (restS t)).2.1.length))

/-! values of digits -/
def dval : List UInt8 → Nat
  | [] => 0
  | c :: r => (c.toNat - 48) * 10 ^ r.length + dval r
theorem dval_append (a b : List UInt8) : dval (a ++ b) = dval a * 10 ^ b.length + dval b := by
  induction a with
  | nil => simp [dval]
  | cons c a ih =>
    simp only [List.cons_append, dval, ih, List.length_append, Nat.pow_add]
    rw [Nat.add_mul, Nat.mul_assoc, Nat.add_assoc]
theorem dval_zer (k : Nat) : dval (zer k) = 0 := by
  induction k with
  | zero => rfl
  | succ k ih => simp only [zer, List.replicate_succ, dval] at *; simp [ih]
theorem dig_of {n : Nat} (h : n < 10) : digB (UInt8.ofNat (48 + n)) = true ∧ (UInt8.ofNat (48 + n)).toNat = 48 + n := by
  have := u8_of (n := 48 + n) (by omega)
  refine ⟨?_, this⟩
  unfold digB
  rw [this]
  simp; omega
theorem dig_zer (k : Nat) : (zer k).all digB = true := by
  induction k with
  | zero => rfl
  | succ k ih => simp only [zer, List.replicate_succ, List.all_cons] at *; simp [ih]; decide
theorem decF_dig : ∀ (k n : Nat), (decF k n).all digB = true
  | 0, n => rfl
  | k + 1, n => by
    rw [decF_succ]
    split
    · rename_i c
      simp only [List.all_cons, List.all_nil, (dig_of c).1, Bool.and_self]
    · simp only [List.all_append, List.all_cons, List.all_nil, decF_dig k (n / 10), (dig_of (n := n % 10) (by omega)).1, Bool.and_self]
theorem decF_val : ∀ (k n : Nat), n < 10 ^ k → dval (decF k n) = n
  | 0, n, h => by simp at h; subst h; rfl
  | k + 1, n, h => by
    rw [decF_succ]
    split
    · rename_i c
      simp only [dval, (dig_of c).2, List.length_nil]
      omega
    · rw [dval_append, decF_val k (n / 10) (by rw [Nat.pow_succ] at h; omega)]
      simp only [dval, (dig_of (n := n % 10) (by omega)).2, List.length_cons, List.length_nil]
      omega

/-- a whole number read -/
theorem foldV_val : ∀ (l : List UInt8) (neg : Bool) (v : Int), l.all digB = true → inI v → (neg = true → v ≤ 0) → (neg = false → 0 ≤ v) →
    foldV neg v l = if inI (v * ((10 ^ l.length : Nat) : Int) + sgn neg (dval l)) then (v * ((10 ^ l.length : Nat) : Int) + sgn neg (dval l), 0) else (0, 4)
  | [], neg, v, _, hv, _, _ => by
    have e : v * ((10 ^ ([] : List UInt8).length : Nat) : Int) + sgn neg ((dval [] : Nat) : Int) = v := by unfold sgn dval; split <;> simp
    simp only [foldV, e, hv, if_true]
  | c :: r, neg, v, hd, hv, hn, hp => by
    simp only [List.all_cons, Bool.and_eq_true] at hd
    have hc := hd.1
    unfold digB at hc
    simp at hc
    have hten := ten_pos r.length
    have e1 : ((10 ^ (c :: r).length : Nat) : Int) = 10 * ((10 ^ r.length : Nat) : Int) := by rw [List.length_cons, Nat.pow_succ]; omega
    have e2 : ((dval (c :: r) : Nat) : Int) = ((c.toNat : Int) - 48) * ((10 ^ r.length : Nat) : Int) + (dval r : Int) := by
      simp only [dval]
      rw [Int.natCast_add, Int.natCast_mul]
      congr 2
      omega
    have hval0 : (0 : Int) ≤ (dval r : Int) := by omega
    have hd0 : 0 ≤ (c.toNat : Int) - 48 := by omega
    have hd9 : (c.toNat : Int) - 48 ≤ 9 := by omega
    have step : v * ((10 ^ (c :: r).length : Nat) : Int) + sgn neg (dval (c :: r)) = (v * 10 + sgn neg ((c.toNat : Int) - 48)) * ((10 ^ r.length : Nat) : Int) + sgn neg (dval r) := by
      rw [e1, e2]
      unfold sgn
      generalize ((10 ^ r.length : Nat) : Int) = T
      generalize (c.toNat : Int) - 48 = d
      split
      · rw [Int.add_mul, Int.sub_mul, Int.zero_mul, Int.mul_assoc]; omega
      · rw [Int.add_mul, Int.mul_assoc]; omega
    rw [step]
    generalize hdd : (c.toNat : Int) - 48 = d at *
    have hT1 : (1 : Int) ≤ ((10 ^ r.length : Nat) : Int) := by omega
    have hrec := foldV_val r neg (v * 10 + sgn neg d) hd.2
    generalize ((10 ^ r.length : Nat) : Int) = T at *
    simp only [foldV, hdd]
    by_cases hx : inI (v * 10)
    · have m1 : mulM v 10 = (v * 10, true) := if_pos hx
      rw [m1]
      simp only [true_and]
      by_cases hy : inI (v * 10 + sgn neg d)
      · have m2 : addM (v * 10) (sgn neg d) = (v * 10 + sgn neg d, true) := if_pos hy
        rw [m2]
        simp only [if_true]
        exact hrec hy (fun h => by subst h; have := hn rfl; simp [sgn]; omega) (fun h => by subst h; have := hp rfl; simp [sgn]; omega)
      · have m2 : addM (v * 10) (sgn neg d) = (0, false) := if_neg hy
        rw [m2]
        simp only [Bool.false_eq_true, if_false]
        rw [if_neg]
        intro h
        apply hy
        cases neg
        · have h0 := hp rfl
          simp only [sgn, Bool.false_eq_true, if_false] at *
          have hw : 0 ≤ v * 10 + d := by omega
          have := Int.mul_le_mul_of_nonneg_left hT1 hw
          unfold inI at *
          omega
        · have h0 := hn rfl
          simp only [sgn, if_true] at *
          have hw : v * 10 + (0 - d) ≤ 0 := by omega
          have := Int.mul_le_mul_of_nonpos_left hw hT1
          unfold inI at *
          omega
    · have m1 : mulM v 10 = (0, false) := if_neg hx
      rw [m1]
      simp only [Bool.false_eq_true, false_and, if_false]
      rw [if_neg]
      intro h
      apply hx
      cases neg
      · have h0 := hp rfl
        simp only [sgn, Bool.false_eq_true, if_false] at *
        have hw : 0 ≤ v * 10 + d := by omega
        have := Int.mul_le_mul_of_nonneg_left hT1 hw
        unfold inI at *
        omega
      · have h0 := hn rfl
        simp only [sgn, if_true] at *
        have hw : v * 10 + (0 - d) ≤ 0 := by omega
        have := Int.mul_le_mul_of_nonpos_left hw hT1
        unfold inI at *
        omega

/-! cutting -/
theorem dig_not46 {c : UInt8} (h : digB c = true) : c ≠ 46 := by
  intro e
  subst e
  revert h
  decide
theorem cutM_point : ∀ (w p : List UInt8), w.all digB = true → cutM (w ++ 46 :: p) = (w, p, true)
  | [], p, _ => by simp [cutM]
  | c :: w, p, h => by
    simp only [List.all_cons, Bool.and_eq_true] at h
    simp only [List.cons_append, cutM, if_neg (dig_not46 h.1), cutM_point w p h.2]
theorem cutM_none : ∀ (w : List UInt8), w.all digB = true → cutM w = (w, [], false)
  | [], _ => rfl
  | c :: w, h => by
    simp only [List.all_cons, Bool.and_eq_true] at h
    simp only [cutM, if_neg (dig_not46 h.1), cutM_none w h.2]
theorem cutM_back : ∀ (l : List UInt8), l = (cutM l).1 ++ (if (cutM l).2.2 = true then 46 :: (cutM l).2.1 else []) ∧ ((cutM l).2.2 = false → (cutM l).2.1 = [])
  | [] => by simp [cutM]
  | c :: r => by
    unfold cutM
    split
    · rename_i h; simp [h]
    · have ih := cutM_back r
      refine ⟨?_, ih.2⟩
      conv => lhs; rw [ih.1]
      rfl
theorem all_not46 {l : List UInt8} (h : l.all digB = true) : l.filter (· != 46) = l := by
  rw [List.filter_eq_self]
  intro c hc
  have := dig_not46 (List.all_eq_true.1 h c hc)
  simpa using this

/-- what a number's words are read as, with noughts behind -/
theorem parse_body (neg : Bool) (n s z : Nat) (hs : s ≤ 18) (hn : n < 10 ^ 20) (t : List UInt8) (hz : z = 0 ∨ 0 < s + z)
    (ht : t = (if neg then [45] else []) ++ (padS (decF 20 n) s).take ((padS (decF 20 n) s).length - s) ++ (if s + z = 0 then [] else 46 :: ((padS (decF 20 n) s).drop ((padS (decF 20 n) s).length - s) ++ zer z))) :
    parseM t (s + z) = if inI (sgn neg ((n * 10 ^ z : Nat) : Int)) then (sgn neg ((n * 10 ^ z : Nat) : Int), 0) else (0, 4) := by
  generalize hd : padS (decF 20 n) s = d at ht
  have hall : d.all digB = true := by rw [← hd]; unfold padS; rw [List.all_append, dig_zer, decF_dig]; rfl
  have hlen : s + 1 ≤ d.length := by rw [← hd, padS_len]; omega
  have hv : dval d = n := by rw [← hd]; unfold padS; rw [dval_append, dval_zer, decF_val 20 n hn]; simp
  have hw : (d.take (d.length - s)).all digB = true := by rw [List.all_eq_true] at *; exact fun c hc => hall c (List.mem_of_mem_take hc)
  have hp : (d.drop (d.length - s)).all digB = true := by rw [List.all_eq_true] at *; exact fun c hc => hall c (List.mem_of_mem_drop hc)
  have hw0 : (d.take (d.length - s)) ≠ [] := by
    intro e
    have := congrArg List.length e
    simp at this
    omega
  have hplen : (d.drop (d.length - s)).length = s := by simp; omega
  have hsplit : d.take (d.length - s) ++ d.drop (d.length - s) = d := List.take_append_drop _ _
  generalize d.take (d.length - s) = w at *
  generalize d.drop (d.length - s) = p at *
  have hhead : t.head? = some 45 ↔ neg = true := by
    cases neg
    · cases w with
      | nil => exact absurd rfl hw0
      | cons c w =>
        rw [ht]
        simp only [Bool.false_eq_true, if_false, List.nil_append, List.cons_append, List.head?_cons, iff_false]
        intro e
        cases e
        simp only [List.all_cons, Bool.and_eq_true] at hw
        exact absurd hw.1 (by decide)
    · rw [ht]; simp
  have hrest : restS t = w ++ (if s + z = 0 then [] else 46 :: (p ++ zer z)) := by
    unfold restS
    cases neg
    · rw [if_neg (fun h => by simpa using hhead.1 h), ht]; simp
    · rw [if_pos (hhead.2 rfl), ht]; simp
  have hneg : decide (t.head? = some 45) = neg := by
    cases neg
    · simp only [decide_eq_false_iff_not]; exact fun h => by simpa using hhead.1 h
    · simp only [decide_eq_true_eq]; exact hhead.2 rfl
  have hcut : cutM (restS t) = if s + z = 0 then (w, [], false) else (w, p ++ zer z, true) := by
    rw [hrest]
    split
    · rw [List.append_nil]; exact cutM_none w hw
    · exact cutM_point w _ hw
  have hpw : plainB w = true := by
    unfold plainB
    rw [hw]
    cases w with
    | nil => exact absurd rfl hw0
    | cons => rfl
  unfold parseM
  rw [hneg, hcut]
  by_cases h0 : s + z = 0
  · have hz0 : z = 0 := by omega
    have hs0 : s = 0 := by omega
    subst hz0
    subst hs0
    have hp0 : p = [] := List.eq_nil_of_length_eq_zero hplen
    rw [if_pos rfl]
    simp only [hpw, Bool.false_eq_true, false_and, or_false, if_false, List.length_nil, Nat.lt_irrefl, Nat.sub_self, reduceCtorEq]
    rw [hp0, List.append_nil] at hsplit
    rw [show zer 0 = [] from rfl, List.append_nil, List.append_nil, hsplit, foldV_val d neg 0 hall (by unfold inI; omega) (fun _ => by omega) (fun _ => by omega), hv]
    simp
  · rw [if_neg h0]
    have hpp : plainB (p ++ zer z) = true := by
      unfold plainB
      rw [List.all_append, hp, dig_zer]
      have : (p ++ zer z).isEmpty = false := by
        rw [List.isEmpty_eq_false_iff]
        intro e
        have h3 := congrArg List.length e
        rw [List.length_append, hplen, List.length_nil] at h3
        simp [zer] at h3
        omega
      rw [this]
      rfl
    have hzl : (zer z).length = z := by simp [zer]
    simp only [hpw, hpp, Bool.false_eq_true, and_false, or_false, if_false, List.length_append, hplen, hzl, Nat.lt_irrefl, Nat.sub_self, reduceCtorEq]
    rw [show zer 0 = [] from rfl, List.append_nil, ← List.append_assoc, hsplit]
    have hall2 : (d ++ zer z).all digB = true := by rw [List.all_append, hall, dig_zer]; rfl
    rw [foldV_val _ neg 0 hall2 (by unfold inI; omega) (fun _ => by omega) (fun _ => by omega), dval_append, dval_zer, hzl, hv]
    simp

/-! byte by byte -/
def scanR : List UInt8 → Bool → Nat → Nat → Option (Bool × Nat × Nat)
  | [], pt, a, b => some (pt, a, b)
  | c :: r, pt, a, b => if c = 46 ∧ pt = false then scanR r true a b else if digB c = false then none else if pt = true then scanR r pt a (b + 1) else scanR r pt (a + 1) b
theorem scan_behind : ∀ (p : List UInt8) (a b : Nat), scanR p true a b = if p.all digB = true then some (true, a, b + p.length) else none
  | [], a, b => by simp [scanR]
  | c :: p, a, b => by
    rw [scanR, if_neg (by simp)]
    by_cases h : digB c = true
    · rw [if_neg (by simp [h]), if_pos rfl, scan_behind p a (b + 1)]
      simp only [List.all_cons, h, Bool.true_and, List.length_cons]
      rw [show b + 1 + p.length = b + (p.length + 1) by omega]
    · rw [if_pos (by simpa using h), if_neg]
      simp only [List.all_cons, Bool.and_eq_true]
      exact fun e => h e.1
theorem scan_cut : ∀ (l : List UInt8) (a : Nat), scanR l false a 0 = if ((cutM l).1.all digB && (cutM l).2.1.all digB) = true then some ((cutM l).2.2, a + (cutM l).1.length, (cutM l).2.1.length) else none
  | [], a => by simp [scanR, cutM]
  | c :: l, a => by
    unfold scanR cutM
    by_cases h : c = 46
    · rw [if_pos ⟨h, rfl⟩, if_pos h, scan_behind]
      simp
    · rw [if_neg (fun e => h e.1), if_neg h]
      by_cases hd : digB c = true
      · rw [if_neg (by simp [hd]), if_neg (by simp), scan_cut l (a + 1)]
        simp only [List.all_cons, hd, Bool.true_and, List.length_cons]
        rw [show a + 1 + (cutM l).1.length = a + ((cutM l).1.length + 1) by omega]
      · rw [if_pos (by simpa using hd), if_neg]
        simp only [List.all_cons, Bool.and_eq_true]
        exact fun e => hd e.1.1
/-- the words are read, seen from the scan -/
theorem parseM_scan (t : List UInt8) (s : Nat) : parseM t s = match scanR (restS t) false 0 0 with
    | none => (0, 2)
    | some (pt, a, b) => if a = 0 ∨ pt = true ∧ b = 0 then (0, 2) else if s < b then (0, 4) else foldV (decide (t.head? = some 45)) 0 ((restS t).filter (· != 46) ++ zer (s - b)) := by
  have hb := cutM_back (restS t)
  rw [scan_cut]
  unfold parseM
  generalize restS t = l at *
  generalize hc : cutM l = q at *
  obtain ⟨w, p, pt⟩ := q
  simp only at *
  by_cases hall : (w.all digB && p.all digB) = true
  · rw [if_pos hall]
    simp only [Nat.zero_add]
    rw [Bool.and_eq_true] at hall
    have e1 : (plainB w = false) = (w.length = 0) := by
      unfold plainB
      rw [hall.1]
      cases w <;> simp
    have e2 : (plainB p = false) = (p.length = 0) := by
      unfold plainB
      rw [hall.2]
      cases p <;> simp
    have e3 : l.filter (· != 46) = w ++ p := by
      rw [hb.1, List.filter_append, all_not46 hall.1]
      congr 1
      cases pt
      · rw [hb.2 rfl]; simp
      · simp [all_not46 hall.2]
    rw [e3]
    simp only [e1, e2]
  · rw [if_neg hall]
    rw [if_pos]
    by_cases hw : plainB w = false
    · exact .inl hw
    · right
      have hw' : w.all digB = true := by
        unfold plainB at hw
        simp at hw
        simpa using hw.2
      cases pt
      · exfalso
        apply hall
        rw [hb.2 rfl, hw']
        rfl
      · refine ⟨rfl, ?_⟩
        unfold plainB
        rw [hw', Bool.true_and] at hall
        rw [Bool.not_eq_true] at hall
        rw [hall, Bool.and_false]
theorem takeW : ∀ (l : List UInt8), ∀ c ∈ l.takeWhile digB, digB c = true
  | [], c, h => by simp at h
  | x :: l, c, h => by
    rw [List.takeWhile_cons] at h
    split at h
    · rename_i hx
      rcases List.mem_cons.1 h with rfl | h
      · exact hx
      · exact takeW l c h
    · simp at h
/-- no digit is trimmed away -/
theorem trim_dig (l : List UInt8) : (Lib.trimS l [48, 49, 50, 51, 52, 53, 54, 55, 56, 57] == []) = l.all digB := by
  have hd : ∀ c : UInt8, ([48, 49, 50, 51, 52, 53, 54, 55, 56, 57] : List UInt8).contains c = digB c := by
    intro c
    have : ∀ n : Fin 256, ([48, 49, 50, 51, 52, 53, 54, 55, 56, 57] : List UInt8).contains (UInt8.ofNat n.val) = digB (UInt8.ofNat n.val) := by decide +kernel
    have h := this ⟨c.toNat, u8_lt c⟩
    simpa using h
  have hdw : ∀ (l : List UInt8), (l.dropWhile digB = []) ↔ l.all digB = true := by
    intro l
    induction l with
    | nil => simp
    | cons c l ih =>
      simp only [List.dropWhile_cons, List.all_cons]
      by_cases h : digB c = true
      · simp [h, ih]
      · simp [h]
  have hset : (fun c : UInt8 => ([48, 49, 50, 51, 52, 53, 54, 55, 56, 57] : List UInt8).contains c) = digB := funext hd
  have e1 : Lib.trimS l [48, 49, 50, 51, 52, 53, 54, 55, 56, 57] = ((l.reverse.dropWhile digB).reverse).dropWhile digB := by
    unfold Lib.trimS Lib.trimLeftS Lib.trimRightS
    rw [hset]
  rw [e1]
  rw [Bool.eq_iff_iff]
  simp only [beq_iff_eq]
  rw [hdw]
  constructor
  · intro h
    have h1 : (l.reverse.dropWhile digB).all digB = true := by simpa using h
    have h2 : l.reverse.all digB = true := by
      rw [← List.takeWhile_append_dropWhile (p := digB) (l := l.reverse), List.all_append, h1, Bool.and_true]
      rw [List.all_eq_true]
      exact takeW l.reverse
    simpa using h2
  · intro h
    have : l.reverse.dropWhile digB = [] := (hdw l.reverse).2 (by simpa using h)
    rw [this]
    rfl
/-- a byte's place -/
theorem index_cut : ∀ (l : List UInt8), Lib.indexByte l 46 = if (cutM l).2.2 = true then ((cutM l).1.length : Int) else -1
  | [] => by simp [cutM, Lib.indexByte]
  | c :: l => by
    unfold cutM Lib.indexByte
    by_cases h : c = 46
    · simp [h]
    · have ih := index_cut l
      have hb : (c == 46) = false := by simpa using h
      rw [if_neg h, hb, ih]
      simp only [Bool.false_eq_true, if_false]
      cases (cutM l).2.2
      · simp
      · have : (((cutM l).1.length : Int) == -1) = false := by simp <;> omega
        simp [this]
end Go.Ev
